
import Derived.Test.YtacicanjmleikaaGreatDoorGr21
import Derived.Test.YtacicanjmleikaaGreatDoorGr20
/- A part of the proof. -/
namespace Go.Proofs.YtacicanjmleikaaGreatDoor
open Go.RowKit Go.Sort Go.Shelf Go.Maps
set_option linter.unusedSimpArgs false
set_option linter.unusedVariables false
set_option maxRecDepth 100000
def okc (to_ k : Int) (c : Ch) : Bool := decide ((lastH c.hs).o = to_) && (decide (k < (lastH c.hs).s) && decide (c.at_ < k))
def lev (lg : Int → List En) (hs : List Hd) (from_ i : Int) : Nat → List Ch
 | 0 => levA hs from_ i
 | r + 1 => (lev lg hs from_ i r).flatMap (lonL lg hs)
def srch (lg : Int → List En) (hs : List Hd) (f : Ch → Bool) : Nat → List Ch → Option Ch
 | 0, _ => none
 | n + 1, l => match l.find? f with
  | some c => some c
  | none => srch lg hs f n (l.flatMap (lonL lg hs))
theorem lev_len (lg : Int → List En) {hs : List Hd} (from_ i : Int) (h12 : hs.length ≤ 12) : ∀ r, (lev lg hs from_ i r).length ≤ 12 ^ (r + 1)
 | 0 => by have := levA_len hs from_ i; simp only [lev]; omega
 | r + 1 => by
  have h1 := lev_len lg from_ i h12 r
  have h2 : ∀ l : List Ch, (l.flatMap (lonL lg hs)).length ≤ l.length * 12 := by
   intro l
   induction l with
   | nil => simp
   | cons c t ih =>
    have h3 := lonL_len lg c hs
    rw [List.flatMap_cons, List.length_append, List.length_cons]
    omega
  have h4 := h2 (lev lg hs from_ i r)
  simp only [lev]
  rw [Nat.pow_succ]
  omega
theorem fm_len (lg : Int → List En) {hs : List Hd} (h12 : hs.length ≤ 12) : ∀ l : List Ch, (l.flatMap (lonL lg hs)).length ≤ l.length * 12
 | [] => by simp
 | c :: t => by
  have h3 := lonL_len lg c hs
  have ih := fm_len lg h12 t
  rw [List.flatMap_cons, List.length_append, List.length_cons]
  omega
theorem lonL_mem {lg : Int → List En} {hs : List Hd} {c d : Ch} (h : d ∈ lonL lg hs c) : ∃ g, g ∈ hs ∧ d = ⟨c.hs ++ [g], logAt lg c.hs g⟩ ∧ thruB c.hs g.o = false ∧ 0 ≤ logAt lg c.hs g := by
 obtain ⟨g, hg, hd⟩ := List.mem_flatMap.1 h
 unfold lonS at hd
 split at hd
 ·cases hd
 ·rename_i h1
  split at hd
  ·rename_i h2
   exact ⟨g, hg, List.mem_singleton.1 hd, by simpa using h1, h2⟩
  ·cases hd
theorem lev_hs {lg : Int → List En} {hs : List Hd} {from_ i : Int} : ∀ (r : Nat) (c : Ch), c ∈ lev lg hs from_ i r → c.hs.length = r + 1
 | 0, c, h => by
  obtain ⟨g, _, rfl⟩ := List.mem_map.1 h
  rfl
 | r + 1, c, h => by
  obtain ⟨d, hd, hc⟩ := List.mem_flatMap.1 h
  obtain ⟨g, _, rfl, _⟩ := lonL_mem hc
  have := lev_hs r d hd
  simp only [List.length_append, List.length_cons, List.length_nil]
  omega
theorem srch_hit {lg : Int → List En} {hs : List Hd} {f : Ch → Bool} {n : Nat} {l : List Ch} {m : Nat} (hm : m < l.length) (hno : ∀ j, j < m → f (nthC l j) = false) (hyes : f (nthC l m) = true) : srch lg hs f (n + 1) l = some (nthC l m) := by
 have : l.find? f = some (nthC l m) := by
  have e : nthC l m = l[m] := by simp [nthC, List.getD_eq_getElem?_getD, hm]
  rw [e] at hyes ⊢
  refine List.find?_eq_some_iff_getElem.2 ⟨hyes, m, hm, rfl, fun j hj => ?_⟩
  have e2 : nthC l j = l[j] := by simp [nthC, List.getD_eq_getElem?_getD, show j < l.length by omega]
  rw [← e2, hno j hj]
  rfl
 simp only [srch, this]
theorem srch_miss {lg : Int → List En} {hs : List Hd} {f : Ch → Bool} {n : Nat} {l : List Ch} (hno : ∀ j, j < l.length → f (nthC l j) = false) : srch lg hs f (n + 1) l = srch lg hs f n (l.flatMap (lonL lg hs)) := by
 have : l.find? f = none := by
  rw [List.find?_eq_none]
  intro x hx
  obtain ⟨j, hj, rfl⟩ := List.mem_iff_getElem.1 hx
  have e2 : nthC l j = l[j] := by simp [nthC, List.getD_eq_getElem?_getD, hj]
  rw [← e2, hno j hj]
  decide
 simp only [srch, this]
theorem fm_succ {f : Ch → List Ch} {l : List Ch} {m : Nat} (hm : m < l.length) : (l.take (m + 1)).flatMap f = (l.take m).flatMap f ++ f (nthC l m) := by
 rw [List.take_succ_eq_append_getElem hm, List.flatMap_append, show nthC l m = l[m] by simp [nthC, List.getD_eq_getElem?_getD, hm]]
 simp
def SrP (w : World) (o : Option Ch) : Ending → World → Prop := fun e w' => match o with
 | some c => ∃ ca cc, e = .returned (.tuple #[.agg #[.slice ca c.hs.length cc, .int .i64 c.at_], .bool true]) ∧ Rw w' ca c.hs.length cc c.hs ∧ Ext w w'
 | none => e = .returned (.tuple #[.agg #[.slice none 0 0, .int .i64 0], .bool false]) ∧ Ext w w'
set_option maxHeartbeats 16000000 in
theorem search_any {b mb : Nat} {a : Option Addr} {n c : Nat} {os : List OfR} {es : Nat → List En} {ha : Option Addr} {hn hc : Nat} {hs : List Hd} {w : World} (H : Arc w b mb a n c os es ha hn hc hs) (HH : ∀ k, k < hn → Held os es n (nthR hs k)) (from_ i to_ k : Int) (hi : (Lit.int .i64 i).wf = true) (ht : TB w) :
  Calls Tryz.prog 34 #[.pointer (some ⟨b, 0, none⟩), .int .i64 from_, .int .i64 i, .int .i64 to_, .int .i64 k] w (SrP w (srch (lgO os es n) hs (okc to_ k) 4 (levA hs from_ i))) := by
 have HIN := Lib.hid H.inn.hrow
 have hfew := H.inn.hfew
 have bd := H.inn.hrow.bd
 have HLEN := Lib.hid H.inn.hrow.hlen
 have hcb := H.box
 have HLO := Lib.hid (fun (W : World) (hx : Ext w W) (xa : Option Addr) (xn xc : Nat) (cs : List Hd) (at_ : Int) (hcs : Rw W xa xn xc cs) (h0 : 0 < xn) (h5 : xn ≤ 5) => longer_any (H.ext hx) HH (at_ := at_) hcs h0 h5 (ht.ext hx))
 clear H HH ht
 generalize lgO os es n = LG at *
 have hR := Bk.new w 90 #[.slice none 0 0, .int .i64 0]
 have hx : Ext w (w.alloc (.cells #[.slice none 0 0, .int .i64 0] 90)) := (Ext.refl w).alloc _
 have c1 := (hcb.ext hx).c 1 _ rfl
 go_enter Tryz.func34, Tryz.ntmps34
 go_upto_region 2 with fail
 clear hcb
 generalize w.alloc (.cells #[.slice none 0 0, .int .i64 0] 90) = V at *
 obtain ⟨b10, hb10⟩ : ∃ b, w.heap.size = b := ⟨_, rfl⟩
 have HB10 := Lib.hid hb10
 rw [hb10] at hR ⊢
 clear hb10
 have HLT : Hid (b10 < V.heap.size) := Lib.hid hR.lt
 go_wp2_with fail
 clear c1
 go_loopw [12, 24] (fun lv ix wr => ∃ (j : Nat) (la : Option Addr) (ln lc : Nat), j ≤ hn ∧ ix = .int .i64 j ∧ lv = .slice la ln lc ∧ OwCh V.heap.size wr la ln lc (levA (hs.take j) from_ i) ∧ Bk wr b10 90 #[.slice none 0 0, .int .i64 0] ∧ Ext V wr) (fun _ ix _ => hn - (intOf ix).toNat)
 case atStart => exact ⟨0, none, 0, 0, by omega, rfl, rfl, OwCh.nil _ _, hR, Ext.refl _⟩
 case round =>
  clear hR
  obtain ⟨j, la, ln, lc, hj, rfl, rfl, ho, hR, hE⟩ := hrel
  by_cases hlt : j < hn
  ·obtain ⟨x1, o1, rfl, hc1⟩ := HIN.out.at (by omega)
   have hr := rangeAt_ext (hc1 j hlt) (hx.trans hE)
   rw [sz_hd] at hr
   clear hc1
   have HSN := Lib.hid (levA_snoc hs from_ i j (by rw [HLEN.out]; exact hlt))
   have HLL : Hid (ln ≤ j) := Lib.hid (by obtain ⟨_, _, e1, _⟩ := ho; have e2 := levA_len (hs.take j) from_ i; rw [List.length_take] at e2; omega)
   have HOK := Lib.hid (HIN.out.wfAt hlt)
   generalize nthR hs j = g at *
   obtain ⟨d0, d1, d2, d3, d4⟩ := cells_hd hr
   clear hr
   have hO := Bk.new wr 34 #[.int .i64 g.o, .int .i64 g.s, .int .u64 g.r, .int .i64 g.C, .int .i64 g.S]
   have hx1 : Ext wr (wr.alloc (.cells #[.int .i64 g.o, .int .i64 g.s, .int .u64 g.r, .int .i64 g.C, .int .i64 g.S] 34)) := (Ext.refl wr).alloc _
   go_upto_region 5 with fail
   clear d0 d1 d2 d3 d4
   replace ho := ho.ext hx1
   replace hR := hR.ext hx1
   replace hE := hE.trans hx1
   clear hx1
   generalize wr.alloc (.cells #[.int .i64 g.o, .int .i64 g.s, .int .u64 g.r, .int .i64 g.C, .int .i64 g.S] 34) = V5 at *
   obtain ⟨b14, hb14⟩ : ∃ b, wr.heap.size = b := ⟨_, rfl⟩
   rw [hb14] at hO ⊢
   clear hb14
   have e0 := hO.c 0 _ rfl
   have e1 := hO.c 1 _ rfl
   have e2 := hO.c 2 _ rfl
   have e3 := hO.c 3 _ rfl
   have e4 := hO.c 4 _ rfl
   by_cases hst : starts from_ i g = true
   ·have hst2 := hst
    unfold starts at hst2
    simp only [Bool.and_eq_true, decide_eq_true_eq] at hst2
    have k1 : (g.o == from_) = true := by simp [hst2.1]
    have k2 : i < g.s := hst2.2
    have k3 : decide (i < g.s) = true := decide_eq_true k2
    rw [if_pos hst] at HSN
    have hlo := Lib.hid ho
    have hen := Lib.hid hE
    have hrr := Lib.hid hR
    have hne : Hid (∀ b, b = V5.heap.size → la ≠ some ⟨b, 0, none⟩) := Lib.hid (fun b hb e => by
     rcases ho.headAt with ⟨h1, _⟩ | ⟨g9, h1, _, h3⟩
     ·rw [h1] at e; cases e
     ·rw [h1] at e; simp only [Option.some.injEq, Addr.mk.injEq, and_true] at e; omega)
    clear hst hst2 ho hE hR
    have HW6 : Hid (OwCh V.heap.size (V5.alloc (.cells #[.int .i64 g.o, .int .i64 g.s, .int .u64 g.r, .int .i64 g.C, .int .i64 g.S] 34)) la ln lc (levA (hs.take j) from_ i)) := Lib.hid (hlo.out.ext ((Ext.refl _).alloc _))
    have HCO : Hid (ChO la (V5.alloc (.cells #[.int .i64 g.o, .int .i64 g.s, .int .u64 g.r, .int .i64 g.C, .int .i64 g.S] 34)) ⟨some ⟨V5.heap.size, 0, none⟩, 1, 1, i⟩ ⟨[g], i⟩) := Lib.hid ⟨⟨rfl, Rw.oneH HOK.out (Bk.new V5 34 #[.int .i64 g.o, .int .i64 g.s, .int .u64 g.r, .int .i64 g.C, .int .i64 g.S])⟩, hi, fun b off e h0 => by simp only [Option.some.injEq, Addr.mk.injEq, and_true] at e; exact hne.out b e.1.symm⟩
    have HSZ : Hid (V.heap.size ≤ (V5.alloc (.cells #[.int .i64 g.o, .int .i64 g.s, .int .u64 g.r, .int .i64 g.C, .int .i64 g.S] 34)).heap.size) := Lib.hid (Nat.le_trans hen.out.sz (Nat.le_of_lt (lt_alloc _ _)))
    go_wp2_with (at_builtin; refine appCh1p el_ch rfl _ _ rfl (V5.alloc (.cells #[.int .i64 g.o, .int .i64 g.s, .int .u64 g.r, .int .i64 g.C, .int .i64 g.S] 34)) V.heap.size _ _ _ _ ⟨some ⟨V5.heap.size, 0, none⟩, 1, 1, i⟩ ⟨[g], i⟩ _ rfl rfl HW6.out HCO.out (V5.heap.size + 1) (Array.size_push _).symm rfl HSZ.out (by have := HLL.out; unfold maxLen; omega) (by have := HLL.out; omega) ?_; intro g7 c7 w7 ho7 hB7; refine hold ?_)
    refine held ?_
    have hE7 : Ext V w7 := Below.trans (hen.out.alloc _) hB7
    have hR7 : Bk w7 b10 90 #[.slice none 0 0, .int .i64 0] := (hB7.block b10 HLT.out).trans (hrr.out.ext ((Ext.refl _).alloc _))
    clear e0 e1 e2 e3 e4 k1 k2 k3 hO
    go_wp2_with fail
    exact ⟨⟨j + 1, some ⟨g7, 0, none⟩, ln + 1, c7, by omega, by go_num, rfl, by rw [HSN.out]; exact ho7, hR7, hE7⟩, by simp only [intOf]; omega⟩
   ·rw [if_neg hst] at HSN
    by_cases hgo : g.o = from_
    ·have k1 : (g.o == from_) = true := by simp [hgo]
     have k2 : ¬ (i < g.s) := by intro h9; exact hst (by unfold starts; simp [hgo, h9])
     have k3 : decide (i < g.s) = false := decide_eq_false k2
     clear hgo hst
     go_wp2_with fail
     exact ⟨⟨j + 1, la, ln, lc, by omega, by go_num, rfl, by rw [HSN.out]; exact ho, hR, hE⟩, by simp only [intOf]; omega⟩
    ·have k1 : (g.o == from_) = false := by simp [hgo]
     clear hgo hst
     go_wp2_with fail
     exact ⟨⟨j + 1, la, ln, lc, by omega, by go_num, rfl, by rw [HSN.out]; exact ho, hR, hE⟩, by simp only [intOf]; omega⟩
  ·obtain rfl : hn = j := by omega
   rw [List.take_of_length_le (by rw [HLEN.out]; exact Nat.le_refl _)] at ho
   have HCH0 : Chs wr la ln lc (lev LG hs from_ i 0) := ho.chs (by have e2 := levA_len hs from_ i; have e3 := HLEN.out; obtain ⟨_, _, e1, _⟩ := ho; omega)
   have HL12 : Hid (hs.length ≤ 12) := Lib.hid (by rw [HLEN.out]; exact hfew)
   clear ho
   obtain ⟨WL, rfl⟩ : ∃ W : World, W = wr := ⟨wr, rfl⟩
   have HR := Lib.hid hR
   have HEL := Lib.hid (hx.trans hE)
   clear hR hE hx
   obtain ⟨S0, hS0⟩ : ∃ o, srch LG hs (okc to_ k) 4 (levA hs from_ i) = o := ⟨_, rfl⟩
   have HS00 := Lib.hid hS0
   have HS0 : Hid (srch LG hs (okc to_ k) 4 (lev LG hs from_ i 0) = S0) := Lib.hid hS0
   clear hS0
   go_wp2_with fail
   go_loopw [12, 46] (fun lv ix w2 => ∃ (r : Nat) (la : Option Addr) (ln lc : Nat), r ≤ 4 ∧ ix = .int .i64 r ∧ lv = .slice la ln lc ∧ Chs w2 la ln lc (lev LG hs from_ i r) ∧ Hid (srch LG hs (okc to_ k) (4 - r) (lev LG hs from_ i r) = S0) ∧ Hid (Ext WL w2)) (fun _ ix _ => 4 - (intOf ix).toNat)
   case atStart => exact ⟨0, la, ln, lc, by omega, rfl, rfl, HCH0, HS0, Lib.hid (Ext.refl _)⟩
   case round =>
    clear HCH0 HS0
    obtain ⟨r, la, ln, lc, hr4, rfl, rfl, HC0, HSR, HX2⟩ := hrel
    by_cases hlt : r < 4
    ·have HCH := Lib.hid HC0
     have HLV := Lib.hid (lev_len LG from_ i HL12.out r)
     have HLH := Lib.hid (fun (m : Nat) (hm : m < ln) => lev_hs (lg := LG) (hs := hs) (from_ := from_) (i := i) r (nthC (lev LG hs from_ i r) m) (by
      have h1 := HC0.hlen
      rw [show nthC (lev LG hs from_ i r) m = (lev LG hs from_ i r)[m]'(by omega) by simp [nthC, List.getD_eq_getElem?_getD, show m < (lev LG hs from_ i r).length by omega]]
      exact List.getElem_mem _))
     have HLN := Lib.hid HC0.hlen
     have hbd := HC0.bd
     clear HC0
     have HR4 := Lib.hid (And.intro hlt hr4)
     have HLB : Hid (ln ≤ 20736) := Lib.hid (by
      have h1 := HLV.out
      have h2 : 12 ^ (r + 1) ≤ 12 ^ 4 := Nat.pow_le_pow_right (by omega) (by omega)
      have h3 : (12 : Nat) ^ 4 = 20736 := by decide
      have h4 := HLN.out
      omega)
     obtain ⟨W6, rfl⟩ : ∃ W : World, W = wr := ⟨wr, rfl⟩
     have HX6 := HX2
     generalize hLL : lev LG hs from_ i r = LL at *
     have HLL := Lib.hid hLL
     clear hLL HX2
     have hlti : (r : Int) < 4 := by omega
     have hltd : decide ((r : Int) < 4) = true := decide_eq_true hlti
     go_wp2_with fail
     clear hlti hltd
     go_loopw [15, 50] (fun nx jx w3 => ∃ (m : Nat) (na : Option Addr) (nn nc : Nat), m ≤ ln ∧ jx = .int .i64 m ∧ nx = .slice na nn nc ∧ OwC2 W6.heap.size w3 na nn nc ((LL.take m).flatMap (lonL LG hs)) ∧ Hid (∀ j, j < m → okc to_ k (nthC LL j) = false) ∧ Hid (Ext W6 w3)) (fun _ jx _ => ln - (intOf jx).toNat)
     case atStart => exact ⟨0, none, 0, 0, by omega, rfl, rfl, OwC2.nil _ _, Lib.hid (fun j hj => absurd hj (by omega)), Lib.hid (Ext.refl _)⟩
     case round =>
      obtain ⟨m, na, nn, nc, hm, rfl, rfl, HON, HNO, HX7⟩ := hrel
      by_cases hlt2 : m < ln
      ·have hWX := HX7.out
       obtain ⟨x1, o1, rfl, hc1⟩ := (HCH.out.ext hWX).at (by omega)
       obtain ⟨q, hr, hrl, hrok⟩ := hc1 m hlt2
       have HSN := Lib.hid (fm_succ (f := lonL LG hs) (l := LL) (m := m) (by rw [HLN.out]; exact hlt2))
       have hlh := HLH.out m hlt2
       have HHT : Hid (okc to_ k (nthC LL m) = true → S0 = some (nthC LL m)) := Lib.hid (fun hy => by
        have h1 := HSR.out
        rw [show 4 - r = (4 - (r + 1)) + 1 by have := HR4.out.1; omega, srch_hit (by rw [HLN.out]; exact hlt2) HNO.out hy] at h1
        exact h1.symm)
       obtain ⟨cc, hcc⟩ : ∃ cc, nthC LL m = cc := ⟨_, rfl⟩
       rw [hcc] at HSN HHT hrl hlh
       have HCM := Lib.hid hcc
       clear hcc
       obtain ⟨ch, cat⟩ := cc
       obtain ⟨hat, hrw⟩ := hrl
       obtain ⟨ra, rn, rc, rat⟩ := q
       simp only at hat hrw hrok hlh
       subst hat
       obtain ⟨d0, d1⟩ := cells_ch hr
       simp only at d0 d1
       have hn1 : rn = r + 1 := by rw [← hrw.hlen]; exact hlh
       have HRN : Hid (1 ≤ rn ∧ rn ≤ 5) := Lib.hid (by have := HR4.out.1; omega)
       have HCL : Hid (ch.length = rn) := Lib.hid hrw.hlen
       clear hr hc1 hn1 hlh
       have hC := Bk.new wr 90 #[.slice ra rn rc, .int .i64 rat]
       have hx3 : Ext wr (wr.alloc (.cells #[.slice ra rn rc, .int .i64 rat] 90)) := (Ext.refl wr).alloc _
       go_upto_region 14 with fail
       clear d0 d1
       have hrw3 := hrw.ext hx3
       replace HON := HON.ext hx3
       replace hWX := hWX.trans hx3
       clear hx3 hrw HX7
       generalize wr.alloc (.cells #[.slice ra rn rc, .int .i64 rat] 90) = V8 at *
       obtain ⟨b17, hb17⟩ : ∃ b, wr.heap.size = b := ⟨_, rfl⟩
       rw [hb17] at hC ⊢
       clear hb17
       have e0 := hC.c 0 _ rfl
       have e1 := hC.c 1 _ rfl
       have HLA := Lib.hid (last_any ra rn rc rat ch V8 hrw3 (by have := HRN.out; omega))
       unfold hdV at HLA
       have HLH2 : Hid (lastH ch = nthR ch (rn - 1)) := Lib.hid (by unfold lastH; rw [HCL.out])
       generalize nthR ch (rn - 1) = lh at *
       go_wp2_with (go_at_call 35; refine HLA.out.mono ?_; rintro e9 w9 ⟨rfl, hx9⟩; refine hold ?_)
       refine held ?_
       clear e0 e1 HLA
       replace hC := hC.ext hx9
       replace hrw3 := hrw3.ext hx9
       replace HON := HON.ext hx9
       replace hWX := hWX.trans hx9
       clear hx9
       have hO := Bk.new w9 34 #[.int .i64 lh.o, .int .i64 lh.s, .int .u64 lh.r, .int .i64 lh.C, .int .i64 lh.S]
       have hx10 : Ext w9 (w9.alloc (.cells #[.int .i64 lh.o, .int .i64 lh.s, .int .u64 lh.r, .int .i64 lh.C, .int .i64 lh.S] 34)) := (Ext.refl w9).alloc _
       go_upto_region 15 with fail
       replace hC := hC.ext hx10
       replace hrw3 := hrw3.ext hx10
       replace HON := HON.ext hx10
       replace hWX := hWX.trans hx10
       clear hx10
       generalize w9.alloc (.cells #[.int .i64 lh.o, .int .i64 lh.s, .int .u64 lh.r, .int .i64 lh.C, .int .i64 lh.S] 34) = V9 at *
       obtain ⟨b18, hb18⟩ : ∃ b, w9.heap.size = b := ⟨_, rfl⟩
       rw [hb18] at hO ⊢
       clear hb18
       have HOKC : Hid (okc to_ k ⟨ch, rat⟩ = (decide (lh.o = to_) && (decide (k < lh.s) && decide (rat < k)))) := Lib.hid (by unfold okc; rw [HLH2.out])
       have e0 := hO.c 0 _ rfl
       have e1 := hO.c 1 _ rfl
       have c0 := hC.c 0 _ rfl
       have c1 := hC.c 1 _ rfl
       by_cases hok : okc to_ k ⟨ch, rat⟩ = true
       ·have hS := HHT.out hok
        rw [HOKC.out] at hok
        simp only [Bool.and_eq_true, decide_eq_true_eq] at hok
        have k1 : (lh.o == to_) = true := by simp [hok.1]
        have k2 : decide (k < lh.s) = true := decide_eq_true hok.2.1
        have k3 : decide (rat < k) = true := decide_eq_true hok.2.2
        have hR10 := HR.out.ext (HX6.out.trans hWX)
        have r0 := hR10.c 0 _ rfl
        have r1 := hR10.c 1 _ rfl
        have rf := hR10.free
        have hxa := HEL.out.trans (HX6.out.trans hWX)
        clear hok HON
        go_wp2_with fail
        try simp only [Exit.inBlock, Exit.then]
        have hne : ∀ x o, ra = some ⟨x, o, none⟩ → 0 < rn → x ≠ b10 := by
         intro x o e h9 exx
         subst exx
         obtain ⟨x2, o2, e2, hq⟩ := hrw3.at h9
         rw [e] at e2
         simp only [Option.some.injEq, Addr.mk.injEq, and_true] at e2
         obtain ⟨rfl, rfl⟩ := e2
         obtain ⟨q0, q1, _⟩ := cells_hd (hq 0 h9)
         have q0' := (cell_of_row V9 x _ _ _ (0, 0) hR10).symm.trans q0
         have q1' := (cell_of_row V9 x _ _ _ (0, 0) hR10).symm.trans q1
         rcases o with _ | _ | o
         ·simp at q0'
         ·simp at q1'
         ·simp at q0'
        refine bodyPost_ret (res_search _ b10 _ _ (.bool true) _ (by rfl) (by rfl) (hR10.set2 (.slice ra rn rc) (.int .i64 rat))) rfl ?_
        rw [HS00.out, hS]
        refine ⟨ra, rc, ?_, ?_, hxa.set2 (by rw [HB10.out]; exact Nat.le_refl _) _ _⟩
        ·rw [HCL.out]
        ·rw [show (⟨ch, rat⟩ : Ch).hs.length = rn from HCL.out]
         exact (hrw3.otherB hne 0 _).otherB hne 1 _
       ·have HNO2 : Hid (∀ j, j < m + 1 → okc to_ k (nthC LL j) = false) := Lib.hid (fun j hj => by
         rcases Nat.lt_or_ge j m with h | h
         ·exact HNO.out j h
         ·obtain rfl : j = m := by omega
          rw [HCM.out]; exact Bool.eq_false_iff.2 hok)
        rw [HOKC.out] at hok
        by_cases h1 : lh.o = to_
        ·by_cases h2 : k < lh.s
         ·have h3 : ¬ (rat < k) := fun h3 => hok (by simp [h1, h2, h3])
          have k1 : (lh.o == to_) = true := by simp [h1]
          have k2 : decide (k < lh.s) = true := decide_eq_true h2
          have k3 : decide (rat < k) = false := decide_eq_false h3
          clear hok h1
          go_upto_region 17 with fail
          have hHL := HLO.out V9 (HEL.out.trans (HX6.out.trans hWX)) ra rn rc ch rat hrw3 (by have := HRN.out; omega) (by have := HRN.out; omega)
          have hfar := HON.own.far
          have hsz9 := hWX.sz
          have hnl : nn ≤ 248832 := by
           have h1 := fm_len LG HL12.out (LL.take m)
           obtain ⟨_, _, e1, _⟩ := HON
           rw [List.length_take] at h1
           have := HLB.out
           omega
          go_wp2_with (go_at_call 69; refine hHL.mono ?_; rintro e9 w10 ⟨ta, tn, tc, rfl, hT, hx11⟩; refine hold ?_)
          refine held ?_
          clear hHL e0 e1 c0 c1
          replace HON := HON.ext hx11
          replace hWX := hWX.trans hx11
          have hsz10 := hWX.sz
          have htn : tn ≤ 12 := by
           obtain ⟨_, _, e1, _⟩ := hT
           have h1 := lonL_len LG ⟨ch, rat⟩ hs
           have := HL12.out
           omega
          clear hx11
          go_wp2_with (at_builtin; refine appC2 el_ch rfl _ _ rfl w10 W6.heap.size _ _ _ _ rfl HON ta tn tc V9.heap.size _ rfl hT hfar hsz9 hsz10 (by unfold maxLen; omega) (by omega) ?_; intro a11 c11 w11 ho11 hB11; refine hold ?_)
          refine held ?_
          have hWY : Ext W6 w11 := Below.trans hWX hB11
          clear hT hfar hsz9 hsz10 HON hWX hB11
          go_wp2_with fail
          exact ⟨⟨m + 1, a11, nn + tn, c11, by omega, by go_num, rfl, by rw [HSN.out]; exact ho11, HNO2, Lib.hid hWY⟩, by simp only [intOf]; omega⟩
         ·have k1 : (lh.o == to_) = true := by simp [h1]
          have k2 : decide (k < lh.s) = false := decide_eq_false h2
          clear hok h1
          go_upto_region 17 with fail
          have hHL := HLO.out V9 (HEL.out.trans (HX6.out.trans hWX)) ra rn rc ch rat hrw3 (by have := HRN.out; omega) (by have := HRN.out; omega)
          have hfar := HON.own.far
          have hsz9 := hWX.sz
          have hnl : nn ≤ 248832 := by
           have h1 := fm_len LG HL12.out (LL.take m)
           obtain ⟨_, _, e1, _⟩ := HON
           rw [List.length_take] at h1
           have := HLB.out
           omega
          go_wp2_with (go_at_call 69; refine hHL.mono ?_; rintro e9 w10 ⟨ta, tn, tc, rfl, hT, hx11⟩; refine hold ?_)
          refine held ?_
          clear hHL e0 e1 c0 c1
          replace HON := HON.ext hx11
          replace hWX := hWX.trans hx11
          have hsz10 := hWX.sz
          have htn : tn ≤ 12 := by
           obtain ⟨_, _, e1, _⟩ := hT
           have h1 := lonL_len LG ⟨ch, rat⟩ hs
           have := HL12.out
           omega
          clear hx11
          go_wp2_with (at_builtin; refine appC2 el_ch rfl _ _ rfl w10 W6.heap.size _ _ _ _ rfl HON ta tn tc V9.heap.size _ rfl hT hfar hsz9 hsz10 (by unfold maxLen; omega) (by omega) ?_; intro a11 c11 w11 ho11 hB11; refine hold ?_)
          refine held ?_
          have hWY : Ext W6 w11 := Below.trans hWX hB11
          clear hT hfar hsz9 hsz10 HON hWX hB11
          go_wp2_with fail
          exact ⟨⟨m + 1, a11, nn + tn, c11, by omega, by go_num, rfl, by rw [HSN.out]; exact ho11, HNO2, Lib.hid hWY⟩, by simp only [intOf]; omega⟩
        ·have k1 : (lh.o == to_) = false := by simp [h1]
         clear hok h1
         go_upto_region 17 with fail
         have hHL := HLO.out V9 (HEL.out.trans (HX6.out.trans hWX)) ra rn rc ch rat hrw3 (by have := HRN.out; omega) (by have := HRN.out; omega)
         have hfar := HON.own.far
         have hsz9 := hWX.sz
         have hnl : nn ≤ 248832 := by
          have h1 := fm_len LG HL12.out (LL.take m)
          obtain ⟨_, _, e1, _⟩ := HON
          rw [List.length_take] at h1
          have := HLB.out
          omega
         go_wp2_with (go_at_call 69; refine hHL.mono ?_; rintro e9 w10 ⟨ta, tn, tc, rfl, hT, hx11⟩; refine hold ?_)
         refine held ?_
         clear hHL e0 e1 c0 c1
         replace HON := HON.ext hx11
         replace hWX := hWX.trans hx11
         have hsz10 := hWX.sz
         have htn : tn ≤ 12 := by
          obtain ⟨_, _, e1, _⟩ := hT
          have h1 := lonL_len LG ⟨ch, rat⟩ hs
          have := HL12.out
          omega
         clear hx11
         go_wp2_with (at_builtin; refine appC2 el_ch rfl _ _ rfl w10 W6.heap.size _ _ _ _ rfl HON ta tn tc V9.heap.size _ rfl hT hfar hsz9 hsz10 (by unfold maxLen; omega) (by omega) ?_; intro a11 c11 w11 ho11 hB11; refine hold ?_)
         refine held ?_
         have hWY : Ext W6 w11 := Below.trans hWX hB11
         clear hT hfar hsz9 hsz10 HON hWX hB11
         go_wp2_with fail
         exact ⟨⟨m + 1, a11, nn + tn, c11, by omega, by go_num, rfl, by rw [HSN.out]; exact ho11, HNO2, Lib.hid hWY⟩, by simp only [intOf]; omega⟩
      ·obtain rfl : ln = m := by omega
       rw [List.take_of_length_le (by rw [HLN.out]; exact Nat.le_refl _)] at HON
       have hEX := HX6.out.trans HX7.out
       have HN2 : Hid (LL.flatMap (lonL LG hs) = lev LG hs from_ i (r + 1)) := Lib.hid (by rw [← HLL.out]; rfl)
       have HSR2 : Hid (srch LG hs (okc to_ k) (4 - (r + 1)) (lev LG hs from_ i (r + 1)) = S0) := Lib.hid (by
        have h1 := HSR.out
        rw [show 4 - r = (4 - (r + 1)) + 1 by have := HR4.out.1; omega, srch_miss (by rw [HLN.out]; exact HNO.out)] at h1
        rw [← HN2.out]
        exact h1)
       have HCN : Chs wr na nn nc (lev LG hs from_ i (r + 1)) := by
        rw [HN2.out] at HON
        refine HON.own.chs ?_
        obtain ⟨_, _, e1, _⟩ := HON
        have h2 := lev_len LG from_ i HL12.out (r + 1)
        have h3 : 12 ^ (r + 1 + 1) ≤ 12 ^ 5 := Nat.pow_le_pow_right (by omega) (by have := HR4.out.1; omega)
        have h4 : (12 : Nat) ^ 5 = 248832 := by decide
        omega
       clear HON HSR HX7
       go_wp2_with fail
       exact ⟨⟨r + 1, na, nn, nc, by have := HR4.out.1; omega, by go_num, rfl, HCN, HSR2, Lib.hid hEX⟩, by simp only [intOf]; omega⟩
    ·obtain rfl : r = 4 := by omega
     have hS : S0 = none := by rw [← HSR.out]; rfl
     have hR := HR.out.ext HX2.out
     have hEX := HEL.out.trans HX2.out
     clear HC0 HSR HX2
     have r0 := hR.c 0 _ rfl
     have r1 := hR.c 1 _ rfl
     have rf := hR.free
     go_wp2_with fail
     try simp only [Exit.inBlock, Exit.then]
     refine bodyPost_ret (res_search _ b10 _ _ (.bool false) _ (by rfl) (by rfl) (hR.set2 (.slice none 0 0) (.int .i64 0))) rfl ?_
     rw [HS00.out, hS]
     exact ⟨rfl, hEX.set2 (by rw [HB10.out]; exact Nat.le_refl _) _ _⟩
open Go.RowKit Go.Sort Go.Shelf Go.Maps
def hopAt (lg : Int → List En) (g h : Hd) : Int := firstE ((lg h.o).take h.s.toNat) (digH g)
structure ChOk (lg : Int → List En) (hs : List Hd) (from_ i : Int) (c : Ch) : Prop where
 len : 1 ≤ c.hs.length
 mem : ∀ m, m < c.hs.length → nthR c.hs m ∈ hs
 fst : (nthR c.hs 0).o = from_ ∧ i < (nthR c.hs 0).s
 nxt : ∀ m, m + 1 < c.hs.length → 0 ≤ hopAt lg (nthR c.hs m) (nthR c.hs (m + 1)) ∧ (nthR c.hs m).o ≠ (nthR c.hs (m + 1)).o
 at1 : c.hs.length = 1 → c.at_ = i
 at2 : ∀ m, c.hs.length = m + 2 → c.at_ = hopAt lg (nthR c.hs m) (nthR c.hs (m + 1))
theorem thruB_ne {cs : List Hd} {o : Int} (h : thruB cs o = false) {m : Nat} (hm : m < cs.length) : (nthR cs m).o ≠ o := by
 intro e
 rw [thruB_yes hm e] at h
 cases h
theorem nthR_snoc_l {cs : List Hd} {g : Hd} {m : Nat} (h : m < cs.length) : nthR (cs ++ [g]) m = nthR cs m := nthR_app_left h
theorem nthR_snoc_r {cs : List Hd} {g : Hd} {m : Nat} (h : m = cs.length) : nthR (cs ++ [g]) m = g := by subst h; simp [nthR, List.getD_eq_getElem?_getD]
theorem lev_ok {lg : Int → List En} {hs : List Hd} {from_ i : Int} : ∀ (r : Nat) (c : Ch), c ∈ lev lg hs from_ i r → ChOk lg hs from_ i c
 | 0, c, h => by
  obtain ⟨g, hg, rfl⟩ := List.mem_map.1 h
  obtain ⟨hg1, hg2⟩ := List.mem_filter.1 hg
  simp only [starts, Bool.and_eq_true, decide_eq_true_eq] at hg2
  refine ⟨Nat.le_refl 1, fun m hm => ?_, hg2, fun m hm => ?_, fun _ => rfl, fun m hm => ?_⟩
  ·obtain rfl : m = 0 := by simp only [List.length_singleton] at hm; omega
   exact hg1
  ·simp only [List.length_singleton] at hm; omega
  ·simp only [List.length_singleton] at hm; omega
 | r + 1, c, h => by
  obtain ⟨d, hd, hc⟩ := List.mem_flatMap.1 h
  obtain ⟨g, hg, rfl, ht, hl⟩ := lonL_mem hc
  have H := lev_ok r d hd
  have hlen : (d.hs ++ [g]).length = d.hs.length + 1 := by simp
  have hpos := H.len
  refine ⟨by simp only [hlen]; omega, fun m hm => ?_, ?_, fun m hm => ?_, fun h1 => ?_, fun m hm => ?_⟩
  ·simp only [hlen] at hm
   rcases Nat.lt_or_ge m d.hs.length with h1 | h1
   ·rw [nthR_snoc_l h1]; exact H.mem m h1
   ·rw [nthR_snoc_r (by omega)]; exact hg
  ·rw [nthR_snoc_l (by omega)]; exact H.fst
  ·simp only [hlen] at hm
   rcases Nat.lt_or_ge (m + 1) d.hs.length with h1 | h1
   ·rw [nthR_snoc_l h1, nthR_snoc_l (by omega)]; exact H.nxt m h1
   ·rw [nthR_snoc_r (show m + 1 = d.hs.length by omega), nthR_snoc_l (show m < d.hs.length by omega)]
    refine ⟨?_, thruB_ne ht (by omega)⟩
    have : lastH d.hs = nthR d.hs m := by unfold lastH; rw [show d.hs.length - 1 = m by omega]
    unfold logAt at hl
    rw [this] at hl
    exact hl
  ·simp only [hlen] at h1; omega
  ·simp only [hlen] at hm
   rw [nthR_snoc_r (show m + 1 = d.hs.length by omega), nthR_snoc_l (show m < d.hs.length by omega)]
   show logAt lg d.hs g = _
   unfold logAt hopAt lastH
   rw [show d.hs.length - 1 = m by omega]
theorem srch_mem {lg : Int → List En} {hs : List Hd} {from_ i : Int} {f : Ch → Bool} {c : Ch} : ∀ (n r : Nat), srch lg hs f n (lev lg hs from_ i r) = some c → ∃ r', r ≤ r' ∧ r' < r + n ∧ c ∈ lev lg hs from_ i r' ∧ f c = true
 | 0, r, h => by cases h
 | n + 1, r, h => by
  unfold srch at h
  split at h
  ·rename_i d hd
   cases h
   exact ⟨r, Nat.le_refl r, by omega, List.mem_of_find?_eq_some hd, List.find?_some hd⟩
  ·obtain ⟨r', h1, h2, h3, h4⟩ := srch_mem n (r + 1) h
   exact ⟨r', by omega, by omega, h3, h4⟩
theorem srch_ok {lg : Int → List En} {hs : List Hd} {from_ i to_ k : Int} {c : Ch} (h : srch lg hs (okc to_ k) 4 (levA hs from_ i) = some c) : ChOk lg hs from_ i c ∧ c.hs.length ≤ 4 ∧ (lastH c.hs).o = to_ ∧ k < (lastH c.hs).s ∧ c.at_ < k := by
 obtain ⟨r, h1, h2, h3, h4⟩ := srch_mem 4 0 h
 have h5 := lev_hs r c h3
 simp only [okc, Bool.and_eq_true, decide_eq_true_eq] at h4
 exact ⟨lev_ok r c h3, by omega, h4.1, h4.2.1, h4.2.2⟩
def pthQ (lg : Int → List En) (q : HpR) : List Int := inclT (vals ((lg q.rc.h.o).take q.rc.h.s.toNat)) q.rc.i
structure HpO (lg : Int → List En) (a : Option Addr) (W : World) (q : HpR) : Prop where
 pth : Sl .u64 W q.rc.pa q.rc.pn q.rc.pc (pthQ lg q)
 grow : q.gc ≤ maxLen
 apt : Apt a q.rc.pa q.rc.pn
theorem HpO.ext {lg : Int → List En} {a : Option Addr} {W W' : World} {q : HpR} (h : HpO lg a W q) (hx : Ext W W') : HpO lg a W' q := ⟨h.pth.ext hx, h.grow, h.apt⟩
def HiQ (B : Nat) (q : HpR) : Prop := ∀ b off, q.rc.pa = some ⟨b, off, none⟩ → 0 < q.rc.pn → B ≤ b
def OwHp (lg : Int → List En) (base : Nat) (W : World) (a : Option Addr) (n c : Nat) (qs : List HpR) : Prop := OwR 98 base W a n c qs ∧ ∀ i, i < n → HpO lg a W (nthR qs i) ∧ HiQ base (nthR qs i)
theorem OwHp.nil (lg : Int → List En) (base : Nat) (W : World) : OwHp lg base W none 0 0 [] := ⟨OwR.nil _ _ _, fun i hi => absurd hi (Nat.not_lt_zero _)⟩
theorem OwHp.ext {lg : Int → List En} {base : Nat} {W W' : World} {a : Option Addr} {n c : Nat} {qs : List HpR} (h : OwHp lg base W a n c qs) (hx : Ext W W') : OwHp lg base W' a n c qs := ⟨h.1.ext hx, fun i hi => ⟨(h.2 i hi).1.ext hx, (h.2 i hi).2⟩⟩
theorem OwHp.keep {lg : Int → List En} {base : Nat} {W W' : World} {a : Option Addr} {n c : Nat} {qs : List HpR} (h : OwHp lg base W a n c qs) (hk : ∀ g, base ≤ g → g < W.heap.size → W'.heap[g]? = W.heap[g]?) : OwHp lg base W' a n c qs := by
 obtain ⟨⟨h0, h1, h2⟩, hv⟩ := h
 refine ⟨⟨h0, h1, ?_⟩, fun i hi => ⟨⟨(hv i hi).1.pth.below fun b off e hn => hk b ((hv i hi).2 b off e hn) ?_, (hv i hi).1.grow, (hv i hi).1.apt⟩, (hv i hi).2⟩⟩
 ·rcases h2 with h2 | ⟨g, cap, cur, hv, hg, hh, r⟩
  ·exact .inl h2
  ·exact .inr ⟨g, cap, cur, hv, hg, (hk g hg (Array.getElem?_eq_some_iff.1 hh).1).trans hh, r⟩
 ·obtain ⟨x, hx⟩ := (hv i hi).1.pth.not_row e hn
  unfold World.cell? at hx
  rcases Nat.lt_or_ge b W.heap.size with h3 | h3
  ·exact h3
  ·simp [Array.getElem?_eq_none h3] at hx
theorem OwHp.setLow {lg : Int → List En} {base : Nat} {W : World} {a : Option Addr} {n c : Nat} {qs : List HpR} (h : OwHp lg base W a n c qs) {p : Nat} (hp : p < base) (i : Nat) (v : Value) : OwHp lg base (W.setCell ⟨p, i, none⟩ v) a n c qs :=
 h.keep fun g hg _ => heap_setCell_other W ⟨p, i, none⟩ g v (fun e => by have e2 : g = p := e; omega)
theorem el_hp : ElS Tryz.prog 45 98 (.agg #[.int .i64 0, .int .i64 0, .int .u64 0, .int .i64 0, .int .i64 0, .slice none 0 0, .int .i64 0, .int .i64 0, .int .u64 0, .int .i64 0, .int .i64 0, .int .i64 0, .int .u64 0, .int .i64 0, .int .i64 0, .slice none 0 0]) 16 160 := ⟨by kernel_rfl, by kernel_rfl, rfl, by decide⟩
theorem Sl.ltB {k : IntKind} {w : World} {a : Option Addr} {n c : Nat} {xs : List Int} (h : Sl k w a n c xs) {b off : Nat} (ha : a = some ⟨b, off, none⟩) (hn : 0 < n) : b < w.heap.size := by
 obtain ⟨x, hx⟩ := h.not_row ha hn
 unfold World.cell? at hx
 rcases Nat.lt_or_ge b w.heap.size with h1 | h1
 ·exact h1
 ·simp [Array.getElem?_eq_none h1] at hx
theorem appHp {P : Program} {lg : Int → List En} {T : TypeId} {z : Value} {by_ : Nat} (hE : ElS P T 98 z 16 by_) {ops : Array Oper} {rest : List Oper} {o : Oper} {a : Act} {Q : Exit → Act → World → Prop} (hgd : o.guard = none) (s x : Operand)
  (ho : o.op = .call { callee := .builtin .append, args := #[s, x], argTypes := #[T, T] })
  (w : World) (base : Nat) (sa : Option Addr) (n c : Nat) (qs : List HpR) (hs : a.eval s = .slice sa n c) (hown : OwHp lg base w sa n c qs)
  (b tc : Nat) (q : HpR) (hx : a.eval x = .slice (some ⟨b, 0, none⟩) 1 tc) (hn : w.rangeAt b 0 (Cel.enc q)) (hq : HpO lg sa w q) (hqh : HiQ base q)
  (hbase : base ≤ w.heap.size) (h63 : n + 1 ≤ maxLen) (hbytes : (n + 1) * by_ ≤ 140737488355328)
  (h : ∀ g cap w', OwHp lg base w' (some ⟨g, 0, none⟩) (n + 1) cap (qs ++ [q]) → Below base w w' → w.grownBy w' (Value.slice sa n c).ownBlock → wpList P ops Q rest (a.put o.dst (.slice (some ⟨g, 0, none⟩) (n + 1) cap)) w') :
  wpList P ops Q (o :: rest) a w := by
 obtain ⟨hrow, hvs⟩ := hown
 refine appC hE hgd s x ho w base sa n c _ hs hrow.2 b 0 1 tc (Cel.enc q) hx (by rw [Cel.len]; rfl) hn (fun v hv => Cel.one q v hv) (by omega) hbase h63 hbytes ?_
 intro g cap w' h2 h3 hg h4
 have hrl := hrow.1
 refine h g cap w' ⟨⟨by rw [List.length_append, hrl, List.length_singleton], by rw [List.flatMap_append, show [q].flatMap Cel.enc = Cel.enc q by simp]; exact h2⟩, fun i hi => ?_⟩ h3 hg
 have one : ∀ (r : HpR), HpO lg sa w r → HpO lg (some ⟨g, 0, none⟩) w' r := fun r hr => by
  have hrowne : ∀ b off, r.rc.pa = some ⟨b, off, none⟩ → 0 < r.rc.pn → some b ≠ (Value.slice sa n c).ownBlock := by
   intro b off ha hn e
   rcases hrow.2.2 with ⟨hv, _⟩ | ⟨g', cap', cur, hv, _⟩
   ·simp only [Value.slice.injEq] at hv; obtain ⟨rfl, _, _⟩ := hv; cases e
   ·simp only [Value.slice.injEq] at hv; obtain ⟨rfl, _, _⟩ := hv
    simp only [Value.ownBlock, Option.some.injEq] at e
    subst e
    exact hr.apt b off ha hn rfl
  refine ⟨hr.pth.below fun b off ha hn => hg.block b (hr.pth.ltB ha hn) (hrowne b off ha hn), hr.grow, fun b off ha hn e => ?_⟩
  simp only [Option.some.injEq, Addr.mk.injEq, and_true] at e
  subst e
  rcases h4 with h4 | h4
  ·exact hrowne g off ha hn h4.symm
  ·have := hr.pth.ltB ha hn
   omega
 rcases Nat.lt_or_ge i n with hin' | hin'
 ·rw [nthR_app_left (by omega)]
  exact ⟨one _ (hvs i hin').1, (hvs i hin').2⟩
 ·rw [nthR_app_right (by omega), hrl, show i - n = 0 by omega]
  exact ⟨one _ hq, hqh⟩
open Go.RowKit Go.Sort
def relyQH (Q : Exit → Act → World → Prop) (I : (Nat → Bool) → List Value → World → Prop) (R : List (RelL Ext)) (lose : List Nat) (listed : Nat → Bool) (i : Nat) (fr : Bool) (vs : List Value) (a : Act) (d : Option Tmp) (r : RelL Ext) (W : World) : Exit → Act → World → Prop
 | .normal, a', W' => ∃ v, a' = a.put d v ∧ r.r (refV vs r.ref) v W' ∧ (fr = true → v = .pointer (some ⟨W.heap.size, 0, none⟩) ∧ W.heap.size < W'.heap.size) ∧ (Ext W W' ∨ (W.heap.size ≤ W'.heap.size ∧ keepsG lose listed i vs W W' 0 R)) ∧ I (updE listed i) (vs.set i v) W'
 | e, a', W' => Q e a' W'
section
variable {Q : Exit → Act → World → Prop} {I : (Nat → Bool) → List Value → World → Prop} {R : List (RelL Ext)} {lose : List Nat} {listed : Nat → Bool} {i : Nat} {vs : List Value} {a : Act} {d : Option Tmp} {r : RelL Ext} {W W' : World} {a' : Act}
theorem relyH_done (v : Value) (h1 : a' = a.put d v) (h2 : r.r (refV vs r.ref) v W') (h3 : Ext W W') (h4 : I (updE listed i) (vs.set i v) W') : relyQH Q I R lose listed i false vs a d r W .normal a' W' :=
 ⟨v, h1, h2, fun h => (by cases h), .inl h3, h4⟩
theorem relyH_store (v : Value) (h1 : a' = a.put d v) (h2 : r.r (refV vs r.ref) v W') (h5 : W.heap.size ≤ W'.heap.size) (h3 : keepsG lose listed i vs W W' 0 R) (h4 : I (updE listed i) (vs.set i v) W') : relyQH Q I R lose listed i false vs a d r W .normal a' W' :=
 ⟨v, h1, h2, fun h => (by cases h), .inr ⟨h5, h3⟩, h4⟩
end
def stepsH (P : Program) (Q : Exit → Act → World → Prop) (I : (Nat → Bool) → List Value → World → Prop) (a : Act) (ops : Array Oper) (n : Nat) (dsts : List (Option Tmp)) (R : List (RelL Ext)) (DP LS : List (List Nat)) (fresh : List Bool) : Nat → List Oper → List (Option Tmp) → List (RelL Ext) → List (List Nat) → List (List Nat) → List Bool → Prop
 | i, o :: l, d :: ds, r :: rs, read :: reads, dep :: deps, fr :: frs =>
  (∀ listed vs W, vs.length = n → I listed vs W → factsL R vs W read → (∀ j ∈ dep, listed j = true) → distD fresh listed vs → (∀ j, listed j = true → i ∉ DP.getD j []) → listed i = false → (∀ j d v, listed j = false → dsts[j]? = some d → vs[j]? = some v → v = slotOf a d) → wpList P ops (relyQH Q I R (LS.getD i []) listed i fr vs (putAll a dsts vs) d r W) [o] (putAll a dsts vs) W) ∧ stepsH P Q I a ops n dsts R DP LS fresh (i + 1) l ds rs reads deps frs
 | _, [], [], [], [], [], [] => True
 | _, _, _, _, _, _, _ => False
section
variable {P : Program} {Q : Exit → Act → World → Prop} {I : (Nat → Bool) → List Value → World → Prop} {a : Act} {ops : Array Oper} {n : Nat} {dsts : List (Option Tmp)} {R : List (RelL Ext)} {DP LS : List (List Nat)} {fresh : List Bool}
theorem stepsH_cons {i : Nat} {o : Oper} {l : List Oper} {d : Option Tmp} {ds : List (Option Tmp)} {r : RelL Ext} {rs : List (RelL Ext)} {read : List Nat} {reads : List (List Nat)} {dep : List Nat} {deps : List (List Nat)} {fr : Bool} {frs : List Bool}
  (h1 : ∀ listed vs W, vs.length = n → I listed vs W → factsL R vs W read → (∀ j ∈ dep, listed j = true) → distD fresh listed vs → (∀ j, listed j = true → i ∉ DP.getD j []) → listed i = false → (∀ j d v, listed j = false → dsts[j]? = some d → vs[j]? = some v → v = slotOf a d) → wpList P ops (relyQH Q I R (LS.getD i []) listed i fr vs (putAll a dsts vs) d r W) [o] (putAll a dsts vs) W) (h2 : stepsH P Q I a ops n dsts R DP LS fresh (i + 1) l ds rs reads deps frs) :
  stepsH P Q I a ops n dsts R DP LS fresh i (o :: l) (d :: ds) (r :: rs) (read :: reads) (dep :: deps) (fr :: frs) := ⟨h1, h2⟩
theorem stepsH_at : ∀ {l : List Oper} {ds : List (Option Tmp)} {rs : List (RelL Ext)} {reads deps : List (List Nat)} {frs : List Bool} {k : Nat}, stepsH P Q I a ops n dsts R DP LS fresh k l ds rs reads deps frs → ∀ (i : Nat) (o : Oper), l[i]? = some o →
      ∃ d r, ds[i]? = some d ∧ rs[i]? = some r ∧ ∀ listed vs W, vs.length = n → I listed vs W → factsL R vs W (reads.getD i []) → (∀ j ∈ deps.getD i [], listed j = true) → distD fresh listed vs → (∀ j, listed j = true → k + i ∉ DP.getD j []) → listed (k + i) = false → (∀ j d v, listed j = false → dsts[j]? = some d → vs[j]? = some v → v = slotOf a d) → wpList P ops (relyQH Q I R (LS.getD (k + i) []) listed (k + i) (frs.getD i false) vs (putAll a dsts vs) d r W) [o] (putAll a dsts vs) W
  | o :: l, d :: ds, r :: rs, read :: reads, dep :: deps, fr :: frs, k, h, 0, o', ho => by
    obtain rfl : o = o' := by simpa using ho
    exact ⟨d, r, rfl, rfl, by simpa using h.1⟩
  | o :: l, d :: ds, r :: rs, read :: reads, dep :: deps, fr :: frs, k, h, i + 1, o', ho => by
    obtain ⟨d', r', h1, h2, h3⟩ := stepsH_at h.2 i o' (by simpa using ho)
    refine ⟨d', r', by simpa using h1, by simpa using h2, ?_⟩
    rw [show k + (i + 1) = k + 1 + i by omega]
    simpa using h3
  | [], [], [], [], [], [], _, _, i, o', ho => by simp at ho
end
structure RelyInvH (I : (Nat → Bool) → List Value → World → Prop) (a0 : Act) (ops : Array Oper) (dsts : List (Option Tmp)) (R : List (RelL Ext)) (deps loses : List (List Nat)) (fresh : List Bool) (listed : Array Bool) (a : Act) (W : World) (vs : List Value) : Prop where
 size : listed.size = ops.size
 inv : I (fun k => listed.getD k false) vs W
 len : vs.length = dsts.length
 act : a = putAll a0 dsts vs
 done : ∀ i, listed.getD i false = true → (∀ m, listed.getD m false = true → m ≠ i → i ∉ loses.getD m []) → atL R vs W i
 dep : ∀ i, listed.getD i false = true → ∀ j ∈ deps.getD i [], listed.getD j false = true
 fr : ∀ i, fresh.getD i false = true → listed.getD i false = true → ∃ b, vs.getD i undef = .pointer (some ⟨b, 0, none⟩) ∧ b < W.heap.size
 dist : distD fresh (fun i => listed.getD i false) vs
 orig : ∀ i d v, listed.getD i false = false → dsts[i]? = some d → vs[i]? = some v → v = slotOf a0 d
theorem wpAny_relyH {P : Program} {Q : Exit → Act → World → Prop} {I : (Nat → Bool) → List Value → World → Prop} {a0 : Act} {l : List Oper} {dsts : List (Option Tmp)} {R : List (RelL Ext)} {deps reads loses : List (List Nat)} {left : List Nat} {refs : List (Option Nat)} {fresh : List Bool}
  (hB : relyBD l.toArray dsts deps reads refs = true) (hL : losesOk l.length deps reads loses left = true) (hrefs : R.map (·.ref) = refs) (hstep : stepsH P Q I a0 l.toArray dsts.length dsts R deps loses fresh 0 l dsts R reads deps fresh)
  (hend : ∀ listed vs W, vs.length = dsts.length → (∀ i, i < l.length → listed i = true) → I listed vs W → (∀ i ∈ left, atL R vs W i) → distD fresh (fun i => decide (i < l.length)) vs → Q .normal (putAll a0 dsts vs) W) :
  ∀ (fuel : Nat) (listed : Array Bool) (a : Act) (W : World) (vs : List Value), listed.toList.count false = fuel → RelyInvH I a0 l.toArray dsts R deps loses fresh listed a W vs → wpAny P .any l.toArray Q fuel listed a W := by
 have lt_of_listed : ∀ (listed : Array Bool) (a : Act) (W : World) (vs : List Value), RelyInvH I a0 l.toArray dsts R deps loses fresh listed a W vs → ∀ m, listed.getD m false = true → m < l.length := by
  intro listed a W vs inv m hm
  rcases Nat.lt_or_ge m listed.size with h | h
  ·rw [inv.size] at h; simpa using h
  ·simp [Array.getElem?_eq_none h] at hm
 have fin : ∀ (listed : Array Bool) (a : Act) (W : World) (vs : List Value), RelyInvH I a0 l.toArray dsts R deps loses fresh listed a W vs → Region.ready .any l.toArray listed = [] → Q .normal a W := by
  intro listed a W vs inv hr
  have hall := all_listedD hB inv.size hr
  rw [inv.act]
  refine hend (fun k => listed.getD k false) vs W inv.len (fun i hi => hall i (by simpa using hi)) inv.inv (fun i hi => inv.done i (hall i (by simpa using left_lt hL hi)) (fun m hm hmi => left_no hL hi (lt_of_listed listed a W vs inv m hm) hmi)) (fun j k h1 h2 h3 h4 h5 => inv.dist j k h1 h2 h3 (hall j (by simpa using h4)) (hall k (by simpa using h5)))
 intro fuel
 induction fuel with
 | zero =>
  intro listed a W vs hc inv
  have hr : Region.ready .any l.toArray listed = [] := by
   apply List.eq_nil_iff_forall_not_mem.2
   intro i hi
   have := count_set (mem_ready.1 hi).1
   omega
  exact ⟨hr, fin listed a W vs inv hr⟩
 | succ fuel ih =>
  intro listed a W vs hc inv
  refine ⟨fin listed a W vs inv, fun i hi => ?_⟩
  obtain ⟨hun, o, ho, hall⟩ := mem_ready.1 hi
  have hil : i < l.length := by have := (Array.getElem?_eq_some_iff.1 ho).1; simpa using this
  have ho' : l[i]? = some o := by simpa using ho
  obtain ⟨d, r, hd, hr, hst⟩ := stepsH_at hstep i o ho'
  rw [Nat.zero_add] at hst
  have hB' := hB
  simp only [relyBD, Bool.and_eq_true, List.all_eq_true, List.mem_range, decide_eq_true_eq] at hB'
  obtain ⟨⟨hB1, hB2⟩, hB3⟩ := hB'
  have hB4 := hB1 i (by simpa using hil)
  rw [ho] at hB4
  simp only [Bool.and_eq_true, List.all_eq_true] at hB4
  obtain ⟨⟨⟨_, hdep⟩, hread⟩, hrefi⟩ := hB4
  have hdst : o.dst = d := by
   have : (l.map (·.dst))[i]? = some d := by rw [show l.map (·.dst) = dsts from by simpa using hB2]; exact hd
   simpa [ho'] using this
  have hdepl : ∀ j ∈ deps.getD i [], listed.getD j false = true := by
   intro j hj
   obtain ⟨e, he, hb⟩ := Array.any_eq_true'.1 (hdep j hj)
   simp only [Bool.and_eq_true, Bool.or_eq_true, beq_iff_eq] at hb
   have h1 := hall e he hb.1
   rcases hb.2 with h2 | h2
   ·rw [← h2]; exact h1
   ·exact inv.dep _ h1 j (by simpa using h2)
  have hw := hst (fun k => listed.getD k false) vs W inv.len inv.inv (factsL_of fun j hj => inv.done j (hdepl j (by simpa using hread j hj)) (fun m hm hmj hjm => by
   rcases lose_ok hL (lt_of_listed listed a W vs inv m hm) hjm hmj hil hj with h | h
   ·subst h; rw [getD_both hun] at hm; cases hm
   ·have := inv.dep m hm i h; rw [getD_both hun] at this; cases this)) hdepl inv.dist (fun j hj hij => by have := inv.dep j hj i hij; rw [getD_both hun] at this; cases this) (getD_both hun) inv.orig
  rw [← inv.act] at hw
  have hrefr : ∀ k r', R[k]? = some r' → r'.ref = refs.getD k none := by
   intro k r' hk
   rw [← hrefs, List.getD_eq_getElem?_getD, List.getElem?_map, hk]; rfl
  have key : ∀ a' W', relyQH Q I R (loses.getD i []) (fun k => listed.getD k false) i (fresh.getD i false) vs a d r W .normal a' W' → wpAny P .any l.toArray Q fuel (listed.setIfInBounds i true) a' W' := by
   rintro a' W' ⟨v, h1, h2, hfr, h3, h4⟩
   have hvi : i < vs.length := by rw [inv.len]; exact (List.getElem?_eq_some_iff.1 hd).1
   have hsz : W.heap.size ≤ W'.heap.size := by
    rcases h3 with h | h
    ·exact h.sz
    ·exact h.1
   have hupd : updE (fun k => listed.getD k false) i = fun k => (listed.setIfInBounds i true).getD k false := by
    funext k
    unfold updE
    by_cases hik : i = k
    ·subst hik
     have hsz : i < listed.size := by rw [inv.size]; simpa using hil
     simp [hsz]
    ·rw [getD_set_ne false hik]
     have : (k == i) = false := by simp; omega
     rw [this, Bool.or_false]
   rw [hupd] at h4
   refine ih _ a' W' (vs.set i v) (by have := count_set hun; omega) ⟨by simp [inv.size], h4, by simp [inv.len], ?_, fun k hk hcond => ?_, fun k hk j hj => ?_, fun k hkf hk => ?_, fun j k hjf hkf hjk hj hk => ?_, fun k d' v' hk hd' hv' => ?_⟩
   ·rw [h1, inv.act]
    exact putAll_put a0 dsts vs i d v hB3 inv.len hd
   ·by_cases hik : i = k
    ·subst hik
     unfold atL
     rw [hr, List.getElem?_set_self hvi]
     have hne : r.ref ≠ some i := by
      intro e
      have h5 := hrefr i r hr
      rw [e] at h5
      rw [← h5] at hrefi
      have := hdepl i (by simpa using hrefi)
      rw [getD_both hun] at this; cases this
     show r.r (refV (vs.set i v) r.ref) v W'
     rw [refV_set hne]
     exact h2
    ·rw [getD_set_ne false hik] at hk
     have hno : (loses.getD i []).contains k = false := by
      have h9 := hcond i (getD_set_self' (by rw [inv.size]; simpa using hil)) hik
      simpa using h9
     have := inv.done k hk (fun m hm hmk => hcond m (getD_set_true hm) hmk)
     unfold atL at this ⊢
     rw [List.getElem?_set_ne hik]
     split
     ·rename_i r' u h5 h6
      rw [h5, h6] at this
      have hne : r'.ref ≠ some i := by
       intro e
       have hkl := lt_of_listed listed a W vs inv k hk
       have h7 := hB1 k (by simpa using hkl)
       have hok : l.toArray[k]? = some (l[k]'hkl) := by simp [hkl]
       rw [hok] at h7
       simp only [Bool.and_eq_true] at h7
       have h8 := h7.2
       rw [← hrefr k r' h5, e] at h8
       have := inv.dep k hk i (by simpa using h8)
       rw [getD_both hun] at this; cases this
      rw [refV_set hne]
      rcases h3 with h3 | h3
      ·exact r'.stab _ u W W' this h3
      ·have hu : vs.getD k undef = u := by rw [List.getD_eq_getElem?_getD, h6]; rfl
       have := keepsG_at h3.2 k r' h5 (by rw [Nat.zero_add]; exact hno) (by simpa using hk) (by omega) (by rw [Nat.zero_add, hu]; exact this)
       rwa [Nat.zero_add, hu] at this
     ·trivial
   ·by_cases hik : i = k
    ·subst hik
     exact getD_set_true (hdepl j hj)
    ·rw [getD_set_ne false hik] at hk
     exact getD_set_true (inv.dep k hk j hj)
   ·by_cases hik : i = k
    ·subst hik
     obtain ⟨e1, e2⟩ := hfr hkf
     exact ⟨_, by rw [getD_set_self hvi, e1], e2⟩
    ·rw [getD_set_ne false hik] at hk
     obtain ⟨b, e1, e2⟩ := inv.fr k hkf hk
     exact ⟨b, by rw [getD_set_other hik, e1], by omega⟩
   ·have hfresh : ∀ m, fresh.getD m false = true → i ≠ m → listed.getD m false = true → fresh.getD i false = true → v ≠ vs.getD m undef := by
     intro m hm him hlm hfi e
     obtain ⟨e1, _⟩ := hfr hfi
     obtain ⟨b, e3, e4⟩ := inv.fr m hm hlm
     rw [e1, e3] at e
     injection e with e
     injection e with e
     injection e with e
     omega
    by_cases hij : i = j
    ·subst hij
     rw [getD_set_self hvi, getD_set_other hjk]
     replace hk : (listed.setIfInBounds i true).getD k false = true := hk
     rw [getD_set_ne false hjk] at hk
     exact hfresh k hkf hjk hk hjf
    ·by_cases hik : i = k
     ·subst hik
      rw [getD_set_self hvi, getD_set_other hij]
      replace hj : (listed.setIfInBounds i true).getD j false = true := hj
      rw [getD_set_ne false hij] at hj
      exact fun e => hfresh j hjf hij hj hkf e.symm
     ·rw [getD_set_other hij, getD_set_other hik]
      replace hk : (listed.setIfInBounds i true).getD k false = true := hk
      replace hj : (listed.setIfInBounds i true).getD j false = true := hj
      rw [getD_set_ne false hik] at hk
      rw [getD_set_ne false hij] at hj
      exact inv.dist j k hjf hkf hjk hj hk
   ·by_cases hik : i = k
    ·subst hik
     have hsz : i < listed.size := by rw [inv.size]; simpa using hil
     simp [hsz] at hk
    ·rw [getD_set_ne false hik] at hk
     rw [List.getElem?_set_ne hik] at hv'
     exact inv.orig k d' v' hk hd' hv'
  unfold wpOp
  simp only [ho]
  unfold wpList at hw
  split
  ·rename_i hwd
   rw [if_pos hwd] at hw
   rcases hw with hw | ⟨hw, hlo⟩
   ·left
    unfold Oper.wp at hw ⊢
    generalize (execOp a.eval o).run P W = res at *
    cases res with
    | ok n w' =>
     cases n <;> simp only [Oper.upon] at hw ⊢ <;>
      first
       | exact key _ _ hw
       | exact Calls.mono hw (fun e w'' he => by cases e <;> first | exact key _ _ he | exact he)
       | exact Rows.mono hw (fun _ _ he => key _ _ he)
    | halt x w' => cases x <;> simp only [Oper.upon] at hw ⊢ <;> exact hw
   ·right
    obtain ⟨a', w', hq⟩ := hlo
    exact ⟨hw, a', w', hq⟩
  ·rename_i hwd
   rw [if_neg hwd] at hw
   exact key _ _ hw
theorem region_relyH {P : Program} {id : Nat} {Q : Exit → Act → World → Prop} {a : Act} {w : World} {l : List Oper} (I : (Nat → Bool) → List Value → World → Prop) (dsts : List (Option Tmp)) (deps reads : List (List Nat)) (refs : List (Option Nat)) (fresh : List Bool) (loses : List (List Nat)) (left : List Nat) (R : List (RelL Ext))
  (hm : P.follows .mixedOrders = true) (hB : relyBD l.toArray dsts deps reads refs = true) (hL : losesOk l.length deps reads loses left = true) (hrefs : R.map (·.ref) = refs) (hI : I (fun _ => false) (dsts.map (slotOf a)) { w with drawn := w.drawn + 1 })
  (hstep : stepsH P Q I a l.toArray dsts.length dsts R deps loses fresh 0 l dsts R reads deps fresh)
  (hend : ∀ listed vs W, vs.length = dsts.length → (∀ i, i < dsts.length → listed i = true) → I listed vs W → factsL R vs W left → distD fresh (fun i => decide (i < dsts.length)) vs → Q .normal (putAll a dsts vs) W) : (Code.region id l.toArray true).wp P Q a w := by
 refine wp_region_any hm ?_
 have hB2 : l.map (·.dst) = dsts := by
  have := hB
  simp only [relyBD, Bool.and_eq_true, decide_eq_true_eq] at this
  simpa using this.1.2
 have hlen : l.length = dsts.length := by rw [← hB2]; simp
 refine wpAny_relyH (I := I) (a0 := a) (R := R) hB hL hrefs hstep (fun listed vs W h1 h0 h2 h3 h4 => hend listed vs W h1 (by rw [← hlen]; exact h0) h2 (factsL_of fun i hi => h3 i hi) (by rw [← hlen]; exact h4)) _ _ a _ (dsts.map (slotOf a)) (by simp) ⟨by simp, (show (fun k => (Array.replicate l.toArray.size false).getD k false) = fun _ => false from funext fun k => getD_replicate_false _ _) ▸ hI, by simp, (putAll_orig a dsts).symm, fun i hi _ => ?_, fun i hi => ?_, fun i _ hi => ?_, fun i j _ _ _ hi => ?_, fun i d v _ h1 h2 => ?_⟩
 ·rw [getD_replicate_false] at hi; cases hi
 ·rw [getD_replicate_false] at hi; cases hi
 ·rw [getD_replicate_false] at hi; cases hi
 ·replace hi : (Array.replicate l.toArray.size false).getD i false = true := hi
  rw [getD_replicate_false] at hi; cases hi
 ·rw [List.getElem?_map, h1] at h2; simpa using h2.symm
end Go.Proofs.YtacicanjmleikaaGreatDoor
