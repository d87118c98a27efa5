
import Derived.Test.YtacicanjmleikaaGreatDoorGr20
import Derived.WalkMore
/- A part of the proof. -/
namespace Go.Proofs.YtacicanjmleikaaGreatDoor
open Go.RowKit Go.Sort Go.Shelf Go.Maps
set_option linter.unusedSimpArgs false
set_option linter.unusedVariables false
set_option maxRecDepth 100000
theorem lenlit12m {vs : List Value} (h : vs.length = 12) : ∃ x0 x1 x2 x3 x4 x5 x6 x7 x8 x9 x10 x11 : Value, vs = [x0, x1, x2, x3, x4, x5, x6, x7, x8, x9, x10, x11] := by
 obtain ⟨x0, v0, rfl, h0⟩ := len_cons h
 obtain ⟨x1, v1, rfl, h1⟩ := len_cons h0
 obtain ⟨x2, v2, rfl, h2⟩ := len_cons h1
 obtain ⟨x3, v3, rfl, h3⟩ := len_cons h2
 obtain ⟨x4, v4, rfl, h4⟩ := len_cons h3
 obtain ⟨x5, v5, rfl, h5⟩ := len_cons h4
 obtain ⟨x6, v6, rfl, h6⟩ := len_cons h5
 obtain ⟨x7, v7, rfl, h7⟩ := len_cons h6
 obtain ⟨x8, v8, rfl, h8⟩ := len_cons h7
 obtain ⟨x9, v9, rfl, h9⟩ := len_cons h8
 obtain ⟨x10, v10, rfl, h10⟩ := len_cons h9
 obtain ⟨x11, v11, rfl, h11⟩ := len_cons h10
 obtain rfl := len_nil h11
 exact ⟨x0, x1, x2, x3, x4, x5, x6, x7, x8, x9, x10, x11, rfl⟩
theorem notL {listed : Nat → Bool} {DP : List (List Nat)} {i : Nat} (hu : ∀ j, listed j = true → i ∉ DP.getD j []) (j : Nat) (h : i ∈ DP.getD j []) : listed j = false := by
 cases e : listed j with
 | false => rfl
 | true => exact absurd h (hu j e)
theorem ofield_any (o : Int) (a : Option Addr) (n c : Nat) (w : World) : (Instr.field 24 (.agg #[.int .i64 o, .slice a n c]) 1).run Tryz.prog w = .ok (.slice a n c) w := by kernel_rfl
theorem el_hd : ElS Tryz.prog 51 34 (.agg #[.int .i64 0, .int .i64 0, .int .u64 0, .int .i64 0, .int .i64 0]) 5 40 := ⟨by kernel_rfl, by kernel_rfl, rfl, by decide⟩
theorem cloneH_any (a : Option Addr) (n c : Nat) (xs : List Hd) (w : World) (h1 : Rw w a n c xs) (hs : n ≤ 1000000) :
  Calls Tryz.prog 101 #[.slice a n c] w fun e w' => ∃ a' c', e = .returned (.slice a' n c') ∧ OwR 34 w.heap.size w' a' n c' xs ∧ Ext w w' := by
 have bd := h1.bd
 have hnil := fun (W : World) => Lib.run_eql_slice_nil (P := Tryz.prog) W 51 34 a n c 0 0 Tryz.underlying51
 rcases a with _ | ad
 ·obtain rfl : n = 0 := by
   rcases Nat.eq_zero_or_pos n with h | h
   ·exact h
   ·obtain ⟨_, _, e, _⟩ := h1.at h; cases e
  obtain rfl := h1.isnil
  go_enter Tryz.func101, Tryz.ntmps101
  go_wp2_with fail
  go_ret
  exact ⟨none, 0, rfl, OwR.nil _ _ _, Ext.refl w⟩
 ·have ho0 := OwR.litNil (α := Hd) (E := 34) (base := w.heap.size) w (Nat.le_refl _)
  have h2 := h1.ext ((Ext.refl w).alloc (.cells #[] 34))
  go_enter Tryz.func101, Tryz.ntmps101
  go_wp2_with (at_builtin; refine appRs el_hd rfl _ _ rfl _ w.heap.size _ _ _ _ rfl ho0 _ _ _ _ rfl h2 (by simp) (by unfold maxLen; omega) (by omega) ?_; intro a' c' w' ho hB; refine hold ?_)
  refine held ?_
  simp only [Nat.zero_add, List.nil_append] at ho ⊢
  go_wp2_with fail
  go_ret
  exact ⟨a', c', rfl, ho, Below.trans ((Ext.refl w).alloc _) hB⟩
def RelCl (B n : Nat) (cs : List Hd) : RelL Ext := ⟨none, fun _ v W => ∃ a c, v = .slice a n c ∧ OwR 34 B W a n c cs, fun _ _ _ _ ⟨a, c, h1, h2⟩ hE => ⟨a, c, h1, h2.ext hE⟩⟩
def RelCg (B n : Nat) (cs : List Hd) : RelL Ext := ⟨none, fun _ v W => ∃ q c, v = .slice (some ⟨q, 0, none⟩) (n + 1) c ∧ OwR 34 B W (some ⟨q, 0, none⟩) (n + 1) c cs, fun _ _ _ _ ⟨q, c, h1, h2⟩ hE => ⟨q, c, h1, h2.ext hE⟩⟩
def RelOne (B : Nat) (g : Hd) : RelL Ext := ⟨none, fun _ v W => ∃ p, v = .slice (some ⟨p, 0, none⟩) 1 1 ∧ Bk W p 34 #[.int .i64 g.o, .int .i64 g.s, .int .u64 g.r, .int .i64 g.C, .int .i64 g.S] ∧ B ≤ p, fun _ _ _ _ ⟨p, h1, h2, h3⟩ hE => ⟨p, h1, h2.ext hE, h3⟩⟩
def RelCz (B n : Nat) (cs : List Hd) (z : Int) : RelL Ext := ⟨none, fun _ v W => ∃ q c, v = .agg #[.slice (some ⟨q, 0, none⟩) (n + 1) c, .int .i64 z] ∧ OwR 34 B W (some ⟨q, 0, none⟩) (n + 1) c cs, fun _ _ _ _ ⟨q, c, h1, h2⟩ hE => ⟨q, c, h1, h2.ext hE⟩⟩
def RelLit (B n : Nat) (cs : List Hd) (z : Int) : RelL Ext := ⟨none, fun _ v W => ∃ r q c, v = .slice (some ⟨r, 0, none⟩) 1 1 ∧ Bk W r 90 #[.slice (some ⟨q, 0, none⟩) (n + 1) c, .int .i64 z] ∧ OwR 34 B W (some ⟨q, 0, none⟩) (n + 1) c cs, fun _ _ _ _ ⟨r, q, c, h1, h2, h3⟩ hE => ⟨r, q, c, h1, h2.ext hE, h3.ext hE⟩⟩
def RelOut (B n : Nat) (xs : List Ch) : RelL Ext := ⟨none, fun _ v W => ∃ a c, v = .slice a n c ∧ OwC2 B W a n c xs, fun _ _ _ _ ⟨a, c, h1, h2⟩ hE => ⟨a, c, h1, h2.ext hE⟩⟩
structure LoI (V U : World) (b3 b8 : Nat) (C3 C8 : Array Value) (listed : Nat → Bool) (W : World) : Prop where
 vu : V.heap.size ≤ U.heap.size
 l3 : b3 < V.heap.size
 l8 : b8 < U.heap.size
 ex : Ext V W
 sz : U.heap.size ≤ W.heap.size
 o3 : Bk W b3 90 C3
 o8 : listed 10 = false → Bk W b8 34 C8
 un : listed 10 = false → Ext U W
section
variable {V U : World} {b3 b8 : Nat} {C3 C8 : Array Value} {listed : Nat → Bool} {W W' : World}
theorem LoI.app (h : LoI V U b3 b8 C3 C8 listed W) {j : Nat} (hj : j ≠ 10) (hB : Below U.heap.size W W') : LoI V U b3 b8 C3 C8 (updE listed j) W' := by
 have e : updE listed j 10 = listed 10 := by simp [updE, hj.symm]
 refine ⟨h.vu, h.l3, h.l8, Below.trans h.ex (hB.mono h.vu), Nat.le_trans h.sz hB.size, h.o3.below hB (Nat.lt_of_lt_of_le h.l3 h.vu), ?_, ?_⟩
 ·rw [e]; exact fun h9 => (h.o8 h9).below hB h.l8
 ·rw [e]; exact fun h9 => Below.trans (h.un h9) hB
theorem LoI.other (h : LoI V U b3 b8 C3 C8 listed W) {j : Nat} (hj : j ≠ 10) (hx : Ext W W') : LoI V U b3 b8 C3 C8 (updE listed j) W' := h.app hj (Below.mono hx h.sz)
theorem LoI.fin (h : LoI V U b3 b8 C3 C8 listed W) (hB : Below V.heap.size W W') : LoI V U b3 b8 C3 C8 (updE listed 10) W' :=
 ⟨h.vu, h.l3, h.l8, Below.trans h.ex hB, Nat.le_trans h.sz hB.size, h.o3.below hB h.l3, fun h9 => by simp [updE] at h9, fun h9 => by simp [updE] at h9⟩
end
theorem OwR.head0 {α : Type} [Cel α] {E : TypeId} {base : Nat} {W : World} {a : Option Addr} {n c : Nat} {xs : List α} (h : OwR E base W a n c xs) (h0 : 0 < n) : ∃ q, a = some ⟨q, 0, none⟩ := by
 rcases h.headAt with ⟨_, h1, _⟩ | ⟨g, h1, _⟩
 ·omega
 ·exact ⟨g, h1⟩
theorem lit_ch {W : World} {r n c : Nat} {a : Option Addr} {z : Int} (h : Bk W r 90 #[.slice a n c, .int .i64 z]) : W.rangeAt r 0 ([(⟨a, n, c, z⟩ : ChR)].flatMap Cel.enc) := by
 have h2 := h.row (cs := [.slice a n c, .int .i64 z])
 simpa [Cel.enc, ChR.enc] using h2
theorem cho_one {B : Nat} {W : World} {la : Option Addr} {q n c : Nat} {cs : List Hd} {z : Int} (h : OwR 34 B W (some ⟨q, 0, none⟩) (n + 1) c cs) (hok : ∀ x ∈ cs, Cel.ok x) (hz : (Lit.int .i64 z).wf = true) (hn : n ≤ 5) (hfar : ∀ g, la = some ⟨g, 0, none⟩ → g < B) {B' : Nat} (hBB : B' ≤ B) :
  ∀ i, i < 1 → ChO la W (nthR [(⟨some ⟨q, 0, none⟩, n + 1, c, z⟩ : ChR)] i) (nthC [⟨cs, z⟩] i) ∧ HiC B' (nthR [(⟨some ⟨q, 0, none⟩, n + 1, c, z⟩ : ChR)] i) := by
 intro i hi
 obtain rfl : i = 0 := by omega
 have hq : B ≤ q := by
  rcases h.headAt with ⟨h2, _⟩ | ⟨g, h2, h3, _⟩
  ·cases h2
  ·simp only [Option.some.injEq, Addr.mk.injEq, and_true] at h2
   omega
 refine ⟨⟨⟨rfl, h.rw (by omega) hok⟩, hz, fun b off e h0 e2 => ?_⟩, fun b off e => ?_⟩
 ·have e3 : (some ⟨q, 0, none⟩ : Option Addr) = some ⟨b, off, none⟩ := e
  simp only [Option.some.injEq, Addr.mk.injEq, and_true] at e3
  obtain ⟨rfl, rfl⟩ := e3
  have h1 := hfar q e2
  omega
 ·have e3 : (some ⟨q, 0, none⟩ : Option Addr) = some ⟨b, off, none⟩ := e
  simp only [Option.some.injEq, Addr.mk.injEq, and_true] at e3
  omega
theorem OwCh.far {base : Nat} {W : World} {a : Option Addr} {n c : Nat} {xs : List Ch} (h : OwCh base W a n c xs) : ∀ g, a = some ⟨g, 0, none⟩ → g < W.heap.size := by
 intro g e
 rcases h.headAt with ⟨h1, _⟩ | ⟨g9, h1, _, h3⟩
 ·rw [h1] at e; cases e
 ·rw [h1] at e; simp only [Option.some.injEq, Addr.mk.injEq, and_true] at e; omega
theorem firstE_bd (es : List En) (d : Int) : -1 ≤ firstE es d ∧ firstE es d ≤ es.length := by
 unfold firstE
 cases h : es.findIdx? (fun e => decide (e.d = d)) with
 | none => simp only; omega
 | some i =>
  have := (List.findIdx?_eq_some_iff_getElem.1 h).1
  simp only
  omega
set_option maxHeartbeats 16000000 in
theorem longer_any {b mb : Nat} {a : Option Addr} {n c : Nat} {os : List OfR} {es : Nat → List En} {ha : Option Addr} {hn hc : Nat} {hs : List Hd} {w : World} (H : Arc w b mb a n c os es ha hn hc hs) (HH : ∀ k, k < hn → Held os es n (nthR hs k))
  {xa : Option Addr} {xn xc : Nat} {cs : List Hd} {at_ : Int} (hcs : Rw w xa xn xc cs) (h0 : 0 < xn) (hx5 : xn ≤ 5) (ht : TB w) :
  Calls Tryz.prog 69 #[.pointer (some ⟨b, 0, none⟩), .agg #[.slice xa xn xc, .int .i64 at_]] w fun e w' => ∃ a' n' c', e = .returned (.slice a' n' c') ∧ OwC2 w.heap.size w' a' n' c' (lonL (lgO os es n) hs ⟨cs, at_⟩) ∧ Ext w w' := by
 have HA := Lib.hid H
 have HHG := Lib.hid (fun k hk => (HH k hk).lg H.inn.asc)
 have hfew := H.inn.hfew
 have bd := H.inn.hrow.bd
 have HLEN := Lib.hid H.inn.hrow.hlen
 have HCL := Lib.hid hcs.hlen
 have HCS := Lib.hid hcs
 have HTB := Lib.hid ht
 have HX5 := Lib.hid hx5
 have hcbd := hcs.bd
 have HOKL := Lib.hid (hcs.wfAt (i := xn - 1) (by omega))
 obtain ⟨LG, hLG⟩ : ∃ f, lgO os es n = f := ⟨_, rfl⟩
 rw [hLG] at HHG ⊢
 clear hLG H HH ht
 have O3 := Bk.new w 90 #[.slice xa xn xc, .int .i64 at_]
 have hx : Ext w (w.alloc (.cells #[.slice xa xn xc, .int .i64 at_] 90)) := (Ext.refl w).alloc _
 go_enter Tryz.func69, Tryz.ntmps69
 go_upto_region 1 with fail
 generalize w.alloc (.cells #[.slice xa xn xc, .int .i64 at_] 90) = V1 at *
 obtain ⟨b3, hb3⟩ : ∃ b, w.heap.size = b := ⟨_, rfl⟩
 have HB3 := Lib.hid hb3
 rw [hb3] at O3 ⊢
 clear hb3
 go_step3
 go_upto_region 2 with fail
 have e0 := O3.c 0 _ rfl
 have e1 := O3.c 1 _ rfl
 have HLA := Lib.hid (last_any xa xn xc at_ cs V1 (hcs.ext hx) h0)
 have HDG := Lib.hid (fun (W : World) (hx : Ext w W) => cdigest_any (nthR cs (xn - 1)) HOKL.out W (HTB.out.ext hx))
 unfold hdV at HLA HDG
 have HLH : Hid (lastH cs = nthR cs (xn - 1)) := Lib.hid (by unfold lastH; rw [HCL.out])
 have HDW : Hid ((Lit.int .u64 (digH (nthR cs (xn - 1)))).wf = true) := Lib.hid (by have := dig_rng (nthR cs (xn - 1)); simp [Lit.wf, IntKind.min, IntKind.max, IntKind.bits, IntKind.signed]; omega)
 generalize nthR cs (xn - 1) = lh at *
 go_wp2_with (go_at_call 35; refine HLA.out.mono ?_; rintro e9 w3 ⟨rfl, hx1⟩; refine hold ?_)
 refine held ?_
 clear e0 e1
 replace hx := hx.trans hx1
 replace O3 := O3.ext hx1
 clear hx1 HLA
 go_wp2_with (go_at_call 49; refine (HDG.out _ hx).mono ?_; rintro e9 w4 ⟨rfl, hx1⟩; refine hold ?_)
 refine held ?_
 replace hx := hx.trans hx1
 replace O3 := O3.ext hx1
 clear hx1 HDG
 obtain ⟨doc, hdoc⟩ : ∃ d, digH lh = d := ⟨_, rfl⟩
 have HDC : Hid (digH (lastH cs) = doc) := Lib.hid (by rw [HLH.out]; exact hdoc)
 rw [hdoc]
 clear hdoc
 have D6 := Bk.new w4 25 #[.int .u64 doc]
 have hx1 : Ext w4 (w4.alloc (.cells #[.int .u64 doc] 25)) := (Ext.refl w4).alloc _
 go_wp2_with fail
 go_step3
 generalize w4.alloc (.cells #[.int .u64 doc] 25) = V at *
 obtain ⟨b6, hb6⟩ : ∃ b, w4.heap.size = b := ⟨_, rfl⟩
 rw [hb6] at D6 ⊢
 clear hb6
 replace hx := hx.trans hx1
 replace O3 := O3.ext hx1
 clear hx1
 have HXV := Lib.hid hx
 have HD6 := Lib.hid D6
 have HO3 := Lib.hid O3
 have c1 := (HA.out.box.ext hx).c 1 _ rfl
 clear O3 D6
 go_wp2_with fail
 clear c1
 go_loopw [5, 21] (fun lv ix wr => ∃ (k : Nat) (la : Option Addr) (ln lc : Nat), k ≤ hn ∧ ix = .int .i64 k ∧ lv = .slice la ln lc ∧ OwC2 V.heap.size wr la ln lc (lonL LG (hs.take k) ⟨cs, at_⟩) ∧ Ext V wr) (fun _ ix _ => hn - (intOf ix).toNat)
 case atStart => exact ⟨0, none, 0, 0, by omega, rfl, rfl, OwC2.nil _ _, Ext.refl _⟩
 case round =>
  obtain ⟨k, la, ln, lc, hk, rfl, rfl, ho, hE⟩ := hrel
  by_cases hlt : k < hn
  ·obtain ⟨x1, o1, rfl, hc1⟩ := HA.out.inn.hrow.at (by omega)
   have hr := rangeAt_ext (hc1 k hlt) (hx.trans hE)
   rw [sz_hd] at hr
   clear hc1
   have HSN := Lib.hid (lonL_snoc LG hs ⟨cs, at_⟩ k (by rw [HLEN.out]; exact hlt))
   have HLL : Hid (ln ≤ 12) := Lib.hid (by obtain ⟨_, _, e1, _⟩ := ho; have e2 := lonL_len LG ⟨cs, at_⟩ (hs.take k); rw [List.length_take] at e2; omega)
   have HGO := Lib.hid (HA.out.inn.hrow.wfAt hlt)
   obtain ⟨j, hj, hid, hlg, s, hs1, hsn, hsr⟩ := HHG.out k hlt
   generalize nthR hs k = g at *
   have HLK := Lib.hid (fun (W : World) (hx : Ext w W) => (HA.out.ext hx).look false hj hid)
   simp only [if_false, Bool.false_eq_true, ofV] at HLK
   rw [hid] at HLK
   have HEJ := Lib.hid (HA.out.inn.off j hj).1
   have HN4 : Hid ((nthR os j).n ≤ 4096) := Lib.hid (by have h1 := (HA.out.inn.off j hj).1.hlen; have h2 := (offB_iff.1 (HA.out.inn.off j hj).2).2.1; omega)
   have HSV := Lib.hid hs1
   have HS1P : Hid (1 ≤ s) := Lib.hid (by have h9 := HGO.out.s; omega)
   have HSN4 := Lib.hid hsn
   have HLGJ := Lib.hid hlg
   clear hlg hsr hid hj
   generalize (nthR os j).a = oa at *
   generalize (nthR os j).n = on at *
   generalize (nthR os j).c = oc at *
   generalize es j = ej at *
   obtain ⟨d0, d1, d2, d3, d4⟩ := cells_hd hr
   rw [hs1] at d1
   clear hr hs1 hsn
   have hO := Bk.new wr 34 #[.int .i64 g.o, .int .i64 (s : Nat), .int .u64 g.r, .int .i64 g.C, .int .i64 g.S]
   have hx1 : Ext wr (wr.alloc (.cells #[.int .i64 g.o, .int .i64 (s : Nat), .int .u64 g.r, .int .i64 g.C, .int .i64 g.S] 34)) := (Ext.refl wr).alloc _
   go_upto_region 6 with fail
   clear d0 d1 d2 d3 d4
   replace ho := ho.ext hx1
   replace hE := hE.trans hx1
   clear hx1
   generalize wr.alloc (.cells #[.int .i64 g.o, .int .i64 (s : Nat), .int .u64 g.r, .int .i64 g.C, .int .i64 g.S] 34) = V5 at *
   obtain ⟨b8, hb8⟩ : ∃ b, wr.heap.size = b := ⟨_, rfl⟩
   rw [hb8] at hO ⊢
   clear hb8
   have HO8 := Lib.hid hO
   have HE5 := Lib.hid hE
   have HOW5 := Lib.hid ho
   have e0 := (HO3.out.ext hE).c 0 _ rfl
   clear ho hO
   go_wp2_with fail
   clear e0
   go_loopw [28] (fun ix w3 => ∃ m : Nat, m ≤ xn ∧ ix = .int .i64 m ∧ Hid ((∀ i, i < m → (nthR cs i).o ≠ g.o) ∧ Ext V5 w3)) (fun ix _ => xn - (intOf ix).toNat)
   case atStart => exact ⟨0, by omega, rfl, Lib.hid ⟨fun i hi => absurd hi (by omega), Ext.refl _⟩⟩
   case round =>
    obtain ⟨m, hm, rfl, HM⟩ := hrel
    by_cases hlt2 : m < xn
    ·obtain ⟨x2, o2, rfl, hc2⟩ := HCS.out.at (by omega)
     have hr := rangeAt_ext (hc2 m hlt2) (hx.trans (HE5.out.trans HM.out.2))
     rw [sz_hd] at hr
     clear hc2
     have HQ := Lib.hid (rfl : nthR cs m = nthR cs m)
     obtain ⟨q, hq⟩ : ∃ q, nthR cs m = q := ⟨_, rfl⟩
     rw [hq] at hr
     replace HQ := Lib.hid hq
     clear hq
     obtain ⟨d0, d1, d2, d3, d4⟩ := cells_hd hr
     clear hr
     have hP := Bk.new wr 34 #[.int .i64 q.o, .int .i64 q.s, .int .u64 q.r, .int .i64 q.C, .int .i64 q.S]
     have hx1 : Ext wr (wr.alloc (.cells #[.int .i64 q.o, .int .i64 q.s, .int .u64 q.r, .int .i64 q.C, .int .i64 q.S] 34)) := (Ext.refl wr).alloc _
     go_upto_region 9 with fail
     clear d0 d1 d2 d3 d4
     have hM9 := HM.out.2.trans hx1
     clear hx1
     generalize wr.alloc (.cells #[.int .i64 q.o, .int .i64 q.s, .int .u64 q.r, .int .i64 q.C, .int .i64 q.S] 34) = V9 at *
     obtain ⟨b10, hb10⟩ : ∃ b, wr.heap.size = b := ⟨_, rfl⟩
     rw [hb10] at hP ⊢
     clear hb10
     have p0 := hP.c 0 _ rfl
     have g0 := (HO8.out.ext hM9).c 0 _ rfl
     by_cases hqo : q.o = g.o
     ·have k1 : (q.o == g.o) = true := by simp [hqo]
      have HT1 : Hid (lonS LG ⟨cs, at_⟩ g = []) := Lib.hid (by unfold lonS; rw [if_pos (thruB_yes (by rw [HCL.out]; exact hlt2) (by rw [HQ.out]; exact hqo))])
      clear hqo
      go_wp2_with fail
      exact ⟨⟨k + 1, la, ln, lc, by omega, by go_num, rfl, by rw [HSN.out, HT1.out, List.append_nil]; exact HOW5.out.ext hM9, HE5.out.trans hM9⟩, by simp only [intOf]; omega⟩
     ·have k1 : (q.o == g.o) = false := by simp [hqo]
      have HM2 : Hid ((∀ i, i < m + 1 → (nthR cs i).o ≠ g.o) ∧ Ext V5 V9) := Lib.hid ⟨fun i hi => by
       rcases Nat.lt_or_ge i m with h | h
       ·exact HM.out.1 i h
       ·obtain rfl : i = m := by omega
        rw [HQ.out]; exact hqo, hM9⟩
      clear hqo
      go_wp2_with fail
      exact ⟨⟨m + 1, by omega, by go_num, HM2⟩, by simp only [intOf]; omega⟩
    ·obtain rfl : xn = m := by omega
     have HTN : Hid (thruB cs g.o = false) := Lib.hid (thruB_no (by rw [HCL.out]; exact HM.out.1))
     have hxw : Ext w wr := hx.trans (HE5.out.trans HM.out.2)
     have O8 := HO8.out.ext HM.out.2
     obtain ⟨ex, eo, rfl, _⟩ := HEJ.out.at (by have := HS1P.out; have := HSN4.out; omega)
     have hso : s ≤ oc := by have h1 := HEJ.out.bd; have := HSN4.out; omega
     have hxw2 := hxw
     go_upto_region 11 with fail
     refine region_rely (S := Ext) (fun W' => Ext wr W') [some 38, some 39, some 40, some 41, some 42, some 43, some 44, some 45, some 46, some 47, some 48, some 11] [[], [0], [1], [2], [], [4], [3, 5], [6], [], [8], [7, 9], [10]] [[], [], [], [], [], [], [], [], [], [], [], []] [.one ((.pointer (some ⟨b, 0, none⟩))), .one ((.pointer (some ⟨b, 0, none⟩))), .one ((.pointer (some ⟨b, 0, none⟩))), .one ((.map (some mb))), .one ((.pointer (some ⟨b8, 0, none⟩))), .one ((.int .i64 g.o)), .one ((.agg #[.int .i64 g.o, .slice (some ⟨ex, eo, none⟩) on oc])), .one ((.slice (some ⟨ex, eo, none⟩) on oc)), .one ((.pointer (some ⟨b8, 1, none⟩))), .one ((.int .i64 (s : Nat))), .one ((.slice (some ⟨ex, eo, none⟩) s oc)), .one ((.slice (some ⟨ex, eo, none⟩) s oc))] (by kernel_rfl) (by kernel_rfl) (Ext.refl wr).drew ?_ ?_
     ·refine stepsR_cons ?_ ?_
      ·intro vs W' hl hI hd ho
       refine hold ?_
       obtain ⟨x0, x1, x2, x3, x4, x5, x6, x7, x8, x9, x10, x11, rfl⟩ := lenlit12m hl; clear hl
       refine held ?_
       simp only [putAll, Act.put, List.setIfInBounds_toArray, List.set_cons_succ, List.set_cons_zero]
       go_wp2_with fail
       exact rely_done _ rfl rfl (Ext.refl _) hI
      refine stepsR_cons ?_ ?_
      ·intro vs W' hl hI hd ho
       refine hold ?_
       obtain ⟨x0, x1, x2, x3, x4, x5, x6, x7, x8, x9, x10, x11, rfl⟩ := lenlit12m hl; clear hl
       simp only [factsR, atR, List.getElem?_cons_succ, List.getElem?_cons_zero, Rel.one, Rel.blk] at hd
       obtain ⟨rfl, -⟩ := hd
       refine held ?_
       simp only [putAll, Act.put, List.setIfInBounds_toArray, List.set_cons_succ, List.set_cons_zero]
       go_wp2_with fail
       exact rely_done _ rfl rfl (Ext.refl _) hI
      refine stepsR_cons ?_ ?_
      ·intro vs W' hl hI hd ho
       refine hold ?_
       obtain ⟨x0, x1, x2, x3, x4, x5, x6, x7, x8, x9, x10, x11, rfl⟩ := lenlit12m hl; clear hl
       simp only [factsR, atR, List.getElem?_cons_succ, List.getElem?_cons_zero, Rel.one, Rel.blk] at hd
       obtain ⟨rfl, -⟩ := hd
       refine held ?_
       simp only [putAll, Act.put, List.setIfInBounds_toArray, List.set_cons_succ, List.set_cons_zero]
       go_wp2_with fail
       exact rely_done _ rfl rfl (Ext.refl _) hI
      refine stepsR_cons ?_ ?_
      ·intro vs W' hl hI hd ho
       refine hold ?_
       obtain ⟨x0, x1, x2, x3, x4, x5, x6, x7, x8, x9, x10, x11, rfl⟩ := lenlit12m hl; clear hl
       simp only [factsR, atR, List.getElem?_cons_succ, List.getElem?_cons_zero, Rel.one, Rel.blk] at hd
       obtain ⟨rfl, -⟩ := hd
       refine held ?_
       simp only [putAll, Act.put, List.setIfInBounds_toArray, List.set_cons_succ, List.set_cons_zero]
       have hA9 := (HA.out.box.ext (hxw.trans hI))
       have d0 := hA9.c 0 _ rfl
       go_wp2_with fail
       exact rely_done _ rfl rfl (Ext.refl _) hI
      refine stepsR_cons ?_ ?_
      ·intro vs W' hl hI hd ho
       refine hold ?_
       obtain ⟨x0, x1, x2, x3, x4, x5, x6, x7, x8, x9, x10, x11, rfl⟩ := lenlit12m hl; clear hl
       refine held ?_
       simp only [putAll, Act.put, List.setIfInBounds_toArray, List.set_cons_succ, List.set_cons_zero]
       go_wp2_with fail
       exact rely_done _ rfl rfl (Ext.refl _) hI
      refine stepsR_cons ?_ ?_
      ·intro vs W' hl hI hd ho
       refine hold ?_
       obtain ⟨x0, x1, x2, x3, x4, x5, x6, x7, x8, x9, x10, x11, rfl⟩ := lenlit12m hl; clear hl
       simp only [factsR, atR, List.getElem?_cons_succ, List.getElem?_cons_zero, Rel.one, Rel.blk] at hd
       obtain ⟨rfl, -⟩ := hd
       refine held ?_
       simp only [putAll, Act.put, List.setIfInBounds_toArray, List.set_cons_succ, List.set_cons_zero]
       have O9 := O8.ext hI
       have p0 := O9.c 0 _ rfl
       have p1 := O9.c 1 _ rfl
       go_wp2_with fail
       exact rely_done _ rfl rfl (Ext.refl _) hI
      refine stepsR_cons ?_ ?_
      ·intro vs W' hl hI hd ho
       refine hold ?_
       obtain ⟨x0, x1, x2, x3, x4, x5, x6, x7, x8, x9, x10, x11, rfl⟩ := lenlit12m hl; clear hl
       simp only [factsR, atR, List.getElem?_cons_succ, List.getElem?_cons_zero, Rel.one, Rel.blk] at hd
       obtain ⟨rfl, rfl, -⟩ := hd
       refine held ?_
       simp only [putAll, Act.put, List.setIfInBounds_toArray, List.set_cons_succ, List.set_cons_zero]
       have hrun := HLK.out W' (hxw.trans hI)
       go_wp2_with fail
       exact rely_done _ rfl rfl (Ext.refl _) hI
      refine stepsR_cons ?_ ?_
      ·intro vs W' hl hI hd ho
       refine hold ?_
       obtain ⟨x0, x1, x2, x3, x4, x5, x6, x7, x8, x9, x10, x11, rfl⟩ := lenlit12m hl; clear hl
       simp only [factsR, atR, List.getElem?_cons_succ, List.getElem?_cons_zero, Rel.one, Rel.blk] at hd
       obtain ⟨rfl, -⟩ := hd
       refine held ?_
       simp only [putAll, Act.put, List.setIfInBounds_toArray, List.set_cons_succ, List.set_cons_zero]
       have hfd := ofield_any g.o (some ⟨ex, eo, none⟩) on oc W'
       go_wp2_with fail
       exact rely_done _ rfl rfl (Ext.refl _) hI
      refine stepsR_cons ?_ ?_
      ·intro vs W' hl hI hd ho
       refine hold ?_
       obtain ⟨x0, x1, x2, x3, x4, x5, x6, x7, x8, x9, x10, x11, rfl⟩ := lenlit12m hl; clear hl
       refine held ?_
       simp only [putAll, Act.put, List.setIfInBounds_toArray, List.set_cons_succ, List.set_cons_zero]
       go_wp2_with fail
       exact rely_done _ rfl rfl (Ext.refl _) hI
      refine stepsR_cons ?_ ?_
      ·intro vs W' hl hI hd ho
       refine hold ?_
       obtain ⟨x0, x1, x2, x3, x4, x5, x6, x7, x8, x9, x10, x11, rfl⟩ := lenlit12m hl; clear hl
       simp only [factsR, atR, List.getElem?_cons_succ, List.getElem?_cons_zero, Rel.one, Rel.blk] at hd
       obtain ⟨rfl, -⟩ := hd
       refine held ?_
       simp only [putAll, Act.put, List.setIfInBounds_toArray, List.set_cons_succ, List.set_cons_zero]
       have O9 := O8.ext hI
       have p0 := O9.c 0 _ rfl
       have p1 := O9.c 1 _ rfl
       go_wp2_with fail
       exact rely_done _ rfl rfl (Ext.refl _) hI
      refine stepsR_cons ?_ ?_
      ·intro vs W' hl hI hd ho
       refine hold ?_
       obtain ⟨x0, x1, x2, x3, x4, x5, x6, x7, x8, x9, x10, x11, rfl⟩ := lenlit12m hl; clear hl
       simp only [factsR, atR, List.getElem?_cons_succ, List.getElem?_cons_zero, Rel.one, Rel.blk] at hd
       obtain ⟨rfl, rfl, -⟩ := hd
       refine held ?_
       simp only [putAll, Act.put, List.setIfInBounds_toArray, List.set_cons_succ, List.set_cons_zero]
       go_wp2_with fail
       exact rely_done _ rfl rfl (Ext.refl _) hI
      refine stepsR_cons ?_ ?_
      ·intro vs W' hl hI hd ho
       refine hold ?_
       obtain ⟨x0, x1, x2, x3, x4, x5, x6, x7, x8, x9, x10, x11, rfl⟩ := lenlit12m hl; clear hl
       simp only [factsR, atR, List.getElem?_cons_succ, List.getElem?_cons_zero, Rel.one, Rel.blk] at hd
       obtain ⟨rfl, -⟩ := hd
       refine held ?_
       simp only [putAll, Act.put, List.setIfInBounds_toArray, List.set_cons_succ, List.set_cons_zero]
       go_wp2_with fail
       exact rely_done _ rfl rfl (Ext.refl _) hI
      exact trivial
     intro vs W' hl hI hd
     obtain ⟨x0, x1, x2, x3, x4, x5, x6, x7, x8, x9, x10, x11, rfl⟩ := lenlit12m hl; clear hl
     simp only [List.length_cons, List.length_nil, List.range, List.range.loop, Nat.zero_add, Nat.reduceAdd, factsR, atR, List.getElem?_cons_succ, List.getElem?_cons_zero, Rel.one, Rel.blk] at hd
     obtain ⟨rfl, rfl, rfl, rfl, rfl, rfl, rfl, rfl, rfl, rfl, rfl, rfl, -⟩ := hd
     simp only [putAll, Act.put, List.setIfInBounds_toArray, List.set_cons_succ, List.set_cons_zero]
     replace hI : Ext wr W' := hI
     have hM9 := HM.out.2.trans hI
     have hxw9 := hxw.trans hI
     clear hI O8 hxw hxw2 HLK
     have HIX := Lib.hid (idx_l (some ⟨ex, eo, none⟩) s oc (ej.take s) doc b6 W' ((HEJ.out.ext hxw9).take HSN4.out) (by have := HSN4.out; have := HN4.out; omega) ((HD6.out.ext (HE5.out.trans hM9)).c 0 _ rfl))
     have HZL : Hid (logAt LG cs g = firstE (ej.take s) doc) := Lib.hid (by unfold logAt; rw [HLGJ.out, HSV.out, HDC.out, Int.toNat_natCast])
     have HZB := Lib.hid (firstE_bd (ej.take s) doc)
     have HZ4 : Hid ((ej.take s).length ≤ 4096) := Lib.hid (by rw [List.length_take]; have := HSN4.out; have := HN4.out; omega)
     generalize firstE (ej.take s) doc = z at *
     go_wp2_with (go_at_call 72; refine HIX.out.mono ?_; rintro e9 U ⟨rfl, hx9⟩; refine hold ?_)
     refine held ?_
     replace hM9 := hM9.trans hx9
     clear hx9 HIX hxw9
     by_cases hz : 0 ≤ z
     ·have HS1 : Hid (lonS LG ⟨cs, at_⟩ g = [⟨cs ++ [g], z⟩]) := Lib.hid (by unfold lonS; rw [if_neg (by rw [HTN.out]; decide), HZL.out, if_pos hz])
      have HZW : Hid ((Lit.int .i64 z).wf = true) := Lib.hid (by have h1 := HZB.out; have h2 := HZ4.out; simp [Lit.wf, IntKind.min, IntKind.max, IntKind.bits, IntKind.signed]; omega)
      have HCU := Lib.hid (HCS.out.ext HXV.out)
      have HCK : Hid (∀ x ∈ cs ++ [g], Cel.ok x) := Lib.hid (fun x hx => by
       rcases List.mem_append.1 hx with h | h
       ·exact HCS.out.wf x h
       ·rw [List.mem_singleton.1 h]; exact HGO.out)
      have HOW := Lib.hid (HOW5.out.ext hM9)
      have HLB := Lib.hid HOW.out.own.far
      have HLN := HLL
      generalize lonL LG (hs.take k) ⟨cs, at_⟩ = LL at *
      have HE9 := Lib.hid (HE5.out.trans hM9)
      have hO9 : Bk U b8 34 #[.int .i64 g.o, .int .i64 g.s, .int .u64 g.r, .int .i64 g.C, .int .i64 g.S] := by rw [HSV.out]; exact HO8.out.ext hM9
      have HII : LoI V U b3 b8 #[.slice xa xn xc, .int .i64 at_] #[.int .i64 g.o, .int .i64 g.s, .int .u64 g.r, .int .i64 g.C, .int .i64 g.S] (fun _ => false) { U with drawn := U.drawn + 1 } := ⟨HE9.out.sz, HO3.out.lt, hO9.lt, HE9.out.drew, Nat.le_refl _, (HO3.out.ext HE9.out).ext (Ext.refl U).drew, fun _ => hO9.ext (Ext.refl U).drew, fun _ => (Ext.refl U).drew⟩
      clear hO9 hM9
      go_upto_region 14 with fail
      refine region_relyG (LoI V U b3 b8 #[.slice xa xn xc, .int .i64 at_] #[.int .i64 g.o, .int .i64 g.s, .int .u64 g.r, .int .i64 g.C, .int .i64 g.S]) [some 54, some 55, some 56, some 57, some 58, some 59, some 60, some 61, some 62, some 63, some 64, some 5] [[], [], [1], [1, 2], [], [4], [1, 2, 3, 4, 5], [], [1, 2, 3, 4, 5, 6, 7], [1, 2, 3, 4, 5, 6, 7, 8], [0, 1, 2, 3, 4, 5, 6, 7, 8, 9], [0, 1, 2, 3, 4, 5, 6, 7, 8, 9, 10]] [[], [], [1], [2], [], [4], [3, 5], [], [6, 7], [8], [0, 9], [10]] [none, none, none, none, none, none, none, none, none, none, none, none] [false, false, false, false, false, false, false, false, false, false, false, false] [[], [], [], [], [], [], [3, 5], [], [], [], [3, 5, 6, 8, 9], []] [11] [.one ((.slice la ln lc)), .one ((.pointer (some ⟨b3, 0, none⟩))), .one ((.slice xa xn xc)), RelCl U.heap.size xn cs, .one ((.agg #[.int .i64 g.o, .int .i64 g.s, .int .u64 g.r, .int .i64 g.C, .int .i64 g.S])), RelOne U.heap.size g, RelCg U.heap.size xn (cs ++ [g]), .one ((.int .i64 z)), RelCz U.heap.size xn (cs ++ [g]) z, RelLit U.heap.size xn (cs ++ [g]) z, RelOut V.heap.size (ln + 1) (LL ++ [⟨cs ++ [g], z⟩]), RelOut V.heap.size (ln + 1) (LL ++ [⟨cs ++ [g], z⟩])] (by kernel_rfl) (by kernel_rfl) (by kernel_rfl) rfl HII ?_ ?_
      ·refine stepsG_cons ?_ ?_
       ·intro listed vs W' hl hI hd hs hn hu hz ho9
        refine hold ?_
        obtain ⟨x0, x1, x2, x3, x4, x5, x6, x7, x8, x9, x10, x11, rfl⟩ := lenlit12m hl; clear hl
        refine held ?_
        simp only [putAll, Act.put, List.setIfInBounds_toArray, List.set_cons_succ, List.set_cons_zero]
        obtain rfl : x11 = .slice la ln lc := ho9 11 _ _ (notL hu 11 (by decide)) rfl rfl
        go_wp2_with fail
        exact relyG_done _ rfl rfl (Ext.refl _) (hI.other (by decide) (Ext.refl _))
       refine stepsG_cons ?_ ?_
       ·intro listed vs W' hl hI hd hs hn hu hz ho9
        refine hold ?_
        obtain ⟨x0, x1, x2, x3, x4, x5, x6, x7, x8, x9, x10, x11, rfl⟩ := lenlit12m hl; clear hl
        refine held ?_
        simp only [putAll, Act.put, List.setIfInBounds_toArray, List.set_cons_succ, List.set_cons_zero]
        go_wp2_with fail
        exact relyG_done _ rfl rfl (Ext.refl _) (hI.other (by decide) (Ext.refl _))
       refine stepsG_cons ?_ ?_
       ·intro listed vs W' hl hI hd hs hn hu hz ho9
        refine hold ?_
        obtain ⟨x0, x1, x2, x3, x4, x5, x6, x7, x8, x9, x10, x11, rfl⟩ := lenlit12m hl; clear hl
        simp only [factsL, atL, refV, List.getElem?_cons_succ, List.getElem?_cons_zero, List.getD_cons_succ, List.getD_cons_zero, RelL.one, RelL.any, RelL.blk, RelL.law, RelCl, RelOne, RelCg, RelCz, RelLit, RelOut] at hd
        obtain ⟨rfl, -⟩ := hd
        refine held ?_
        simp only [putAll, Act.put, List.setIfInBounds_toArray, List.set_cons_succ, List.set_cons_zero]
        have d0 := hI.o3.c 0 _ rfl
        have d1 := hI.o3.c 1 _ rfl
        go_wp2_with fail
        exact relyG_done _ rfl rfl (Ext.refl _) (hI.other (by decide) (Ext.refl _))
       refine stepsG_cons ?_ ?_
       ·intro listed vs W' hl hI hd hs hn hu hz ho9
        refine hold ?_
        obtain ⟨x0, x1, x2, x3, x4, x5, x6, x7, x8, x9, x10, x11, rfl⟩ := lenlit12m hl; clear hl
        simp only [factsL, atL, refV, List.getElem?_cons_succ, List.getElem?_cons_zero, List.getD_cons_succ, List.getD_cons_zero, RelL.one, RelL.any, RelL.blk, RelL.law, RelCl, RelOne, RelCg, RelCz, RelLit, RelOut] at hd
        obtain ⟨rfl, -⟩ := hd
        refine held ?_
        simp only [putAll, Act.put, List.setIfInBounds_toArray, List.set_cons_succ, List.set_cons_zero]
        go_wp2_with (go_at_call 101; refine (cloneH_any xa xn xc cs W' (HCU.out.ext hI.ex) (by have := HX5.out; omega)).mono ?_; rintro e9 w9 ⟨a3, c3, rfl, ho3, hx9⟩)
        exact relyG_done _ rfl ⟨a3, c3, rfl, ho3.monoB hI.sz⟩ hx9 (hI.other (by decide) hx9)
       refine stepsG_cons ?_ ?_
       ·intro listed vs W' hl hI hd hs hn hu hz ho9
        refine hold ?_
        obtain ⟨x0, x1, x2, x3, x4, x5, x6, x7, x8, x9, x10, x11, rfl⟩ := lenlit12m hl; clear hl
        refine held ?_
        simp only [putAll, Act.put, List.setIfInBounds_toArray, List.set_cons_succ, List.set_cons_zero]
        have O9 := hI.o8 (notL hu 10 (by decide))
        have p0 := O9.c 0 _ rfl
        have p1 := O9.c 1 _ rfl
        have p2 := O9.c 2 _ rfl
        have p3 := O9.c 3 _ rfl
        have p4 := O9.c 4 _ rfl
        go_wp2_with fail
        exact relyG_done _ rfl rfl (Ext.refl _) (hI.other (by decide) (Ext.refl _))
       refine stepsG_cons ?_ ?_
       ·intro listed vs W' hl hI hd hs hn hu hz ho9
        refine hold ?_
        obtain ⟨x0, x1, x2, x3, x4, x5, x6, x7, x8, x9, x10, x11, rfl⟩ := lenlit12m hl; clear hl
        simp only [factsL, atL, refV, List.getElem?_cons_succ, List.getElem?_cons_zero, List.getD_cons_succ, List.getD_cons_zero, RelL.one, RelL.any, RelL.blk, RelL.law, RelCl, RelOne, RelCg, RelCz, RelLit, RelOut] at hd
        obtain ⟨rfl, -⟩ := hd
        refine held ?_
        simp only [putAll, Act.put, List.setIfInBounds_toArray, List.set_cons_succ, List.set_cons_zero]
        go_wp2_with fail
        exact relyG_done _ rfl ⟨_, rfl, Bk.new W' _ _, hI.sz⟩ ((Ext.refl _).alloc _) (hI.other (by decide) ((Ext.refl _).alloc _))
       refine stepsG_cons ?_ ?_
       ·intro listed vs W' hl hI hd hs hn hu hz ho9
        refine hold ?_
        obtain ⟨x0, x1, x2, x3, x4, x5, x6, x7, x8, x9, x10, x11, rfl⟩ := lenlit12m hl; clear hl
        simp only [factsL, atL, refV, List.getElem?_cons_succ, List.getElem?_cons_zero, List.getD_cons_succ, List.getD_cons_zero, RelL.one, RelL.any, RelL.blk, RelL.law, RelCl, RelOne, RelCg, RelCz, RelLit, RelOut] at hd
        obtain ⟨⟨a3, c3, rfl, ho3⟩, ⟨p5, rfl, hb5, hp5⟩, -⟩ := hd
        refine held ?_
        simp only [putAll, Act.put, List.setIfInBounds_toArray, List.set_cons_succ, List.set_cons_zero]
        have hr5 := Rw.oneH HGO.out hb5
        go_wp2_with (at_builtin; refine appRs el_hd rfl _ _ rfl W' U.heap.size _ _ _ _ rfl ho3 _ _ _ _ rfl hr5 hI.sz (by have := HX5.out; unfold maxLen; omega) (by have := HX5.out; omega) ?_; intro g6 c6 w6 ho6 hB6; refine hold ?_)
        obtain ⟨q6, rfl⟩ := ho6.head0 (by omega)
        refine held ?_
        go_wp2_with fail
        exact relyG_store _ rfl ⟨q6, c6, rfl, ho6⟩ hB6.size ⟨(fun _ _ _ h => h), (fun _ _ _ h => h), (fun _ _ _ h => h), (fun h => by simp at h), (fun _ _ _ h => h), (fun h => by simp at h), (fun _ _ h _ => absurd rfl h), (fun _ _ _ h => h), (fun _ hl _ _ => absurd (by decide) (hu 8 hl)), (fun _ hl _ _ => absurd (by decide) (hu 9 hl)), (fun _ hl _ _ => absurd (by decide) (hu 10 hl)), (fun _ hl _ _ => absurd (by decide) (hu 11 hl)), trivial⟩ (hI.app (by decide) hB6)
       refine stepsG_cons ?_ ?_
       ·intro listed vs W' hl hI hd hs hn hu hz ho9
        refine hold ?_
        obtain ⟨x0, x1, x2, x3, x4, x5, x6, x7, x8, x9, x10, x11, rfl⟩ := lenlit12m hl; clear hl
        refine held ?_
        simp only [putAll, Act.put, List.setIfInBounds_toArray, List.set_cons_succ, List.set_cons_zero]
        go_wp2_with fail
        exact relyG_done _ rfl rfl (Ext.refl _) (hI.other (by decide) (Ext.refl _))
       refine stepsG_cons ?_ ?_
       ·intro listed vs W' hl hI hd hs hn hu hz ho9
        refine hold ?_
        obtain ⟨x0, x1, x2, x3, x4, x5, x6, x7, x8, x9, x10, x11, rfl⟩ := lenlit12m hl; clear hl
        simp only [factsL, atL, refV, List.getElem?_cons_succ, List.getElem?_cons_zero, List.getD_cons_succ, List.getD_cons_zero, RelL.one, RelL.any, RelL.blk, RelL.law, RelCl, RelOne, RelCg, RelCz, RelLit, RelOut] at hd
        obtain ⟨⟨q6, c6, rfl, ho6⟩, rfl, -⟩ := hd
        refine held ?_
        simp only [putAll, Act.put, List.setIfInBounds_toArray, List.set_cons_succ, List.set_cons_zero]
        go_wp2_with fail
        exact relyG_done _ rfl ⟨q6, c6, rfl, ho6⟩ (Ext.refl _) (hI.other (by decide) (Ext.refl _))
       refine stepsG_cons ?_ ?_
       ·intro listed vs W' hl hI hd hs hn hu hz ho9
        refine hold ?_
        obtain ⟨x0, x1, x2, x3, x4, x5, x6, x7, x8, x9, x10, x11, rfl⟩ := lenlit12m hl; clear hl
        simp only [factsL, atL, refV, List.getElem?_cons_succ, List.getElem?_cons_zero, List.getD_cons_succ, List.getD_cons_zero, RelL.one, RelL.any, RelL.blk, RelL.law, RelCl, RelOne, RelCg, RelCz, RelLit, RelOut] at hd
        obtain ⟨⟨q6, c6, rfl, ho6⟩, -⟩ := hd
        refine held ?_
        simp only [putAll, Act.put, List.setIfInBounds_toArray, List.set_cons_succ, List.set_cons_zero]
        go_wp2_with fail
        exact relyG_done _ rfl ⟨_, q6, c6, rfl, Bk.new W' _ _, ho6.ext ((Ext.refl _).alloc _)⟩ ((Ext.refl _).alloc _) (hI.other (by decide) ((Ext.refl _).alloc _))
       refine stepsG_cons ?_ ?_
       ·intro listed vs W' hl hI hd hs hn hu hz ho9
        refine hold ?_
        obtain ⟨x0, x1, x2, x3, x4, x5, x6, x7, x8, x9, x10, x11, rfl⟩ := lenlit12m hl; clear hl
        simp only [factsL, atL, refV, List.getElem?_cons_succ, List.getElem?_cons_zero, List.getD_cons_succ, List.getD_cons_zero, RelL.one, RelL.any, RelL.blk, RelL.law, RelCl, RelOne, RelCg, RelCz, RelLit, RelOut] at hd
        obtain ⟨rfl, ⟨r9, q6, c6, rfl, hb9, ho6⟩, -⟩ := hd
        refine held ?_
        simp only [putAll, Act.put, List.setIfInBounds_toArray, List.set_cons_succ, List.set_cons_zero]
        have hz9 := hz
        have hco := HOW.out.ext (hI.un hz9)
        go_wp2_with (at_builtin; refine appCh2 el_ch rfl _ _ rfl W' V.heap.size _ _ _ _ rfl hco r9 0 1 1 [⟨cs ++ [g], z⟩] [⟨some ⟨q6, 0, none⟩, xn + 1, c6, z⟩] rfl rfl rfl (lit_ch hb9) (cho_one ho6 HCK.out HZW.out HX5.out HLB.out hI.vu) (by omega) (Nat.le_trans hI.vu hI.sz) (by have := HLN.out; unfold maxLen; omega) (by have := HLN.out; omega) ?_; intro g9 c9 w9 ho10 hB10; refine hold ?_)
        refine held ?_
        go_wp2_with fail
        exact relyG_store _ rfl ⟨_, c9, rfl, ho10⟩ hB10.size ⟨(fun _ _ _ h => h), (fun _ _ _ h => h), (fun _ _ _ h => h), (fun h => by simp at h), (fun _ _ _ h => h), (fun h => by simp at h), (fun h => by simp at h), (fun _ _ _ h => h), (fun h => by simp at h), (fun h => by simp at h), (fun _ _ h _ => absurd rfl h), (fun _ hl _ _ => absurd (by decide) (hu 11 hl)), trivial⟩ (hI.fin hB10)
       refine stepsG_cons ?_ ?_
       ·intro listed vs W' hl hI hd hs hn hu hz ho9
        refine hold ?_
        obtain ⟨x0, x1, x2, x3, x4, x5, x6, x7, x8, x9, x10, x11, rfl⟩ := lenlit12m hl; clear hl
        simp only [factsL, atL, refV, List.getElem?_cons_succ, List.getElem?_cons_zero, List.getD_cons_succ, List.getD_cons_zero, RelL.one, RelL.any, RelL.blk, RelL.law, RelCl, RelOne, RelCg, RelCz, RelLit, RelOut] at hd
        obtain ⟨⟨a10, c10, rfl, ho10⟩, -⟩ := hd
        refine held ?_
        simp only [putAll, Act.put, List.setIfInBounds_toArray, List.set_cons_succ, List.set_cons_zero]
        go_wp2_with fail
        exact relyG_done _ rfl ⟨a10, c10, rfl, ho10⟩ (Ext.refl _) (hI.other (by decide) (Ext.refl _))
       exact trivial
      ·intro listed vs W' hl hall hI hd hn
       obtain ⟨x0, x1, x2, x3, x4, x5, x6, x7, x8, x9, x10, x11, rfl⟩ := lenlit12m hl; clear hl
       simp only [List.length_cons, List.length_nil, factsL, atL, refV, List.getElem?_cons_succ, List.getElem?_cons_zero, List.getD_cons_succ, List.getD_cons_zero, RelL.one, RelL.any, RelL.blk, RelL.law, RelCl, RelOne, RelCg, RelCz, RelLit, RelOut] at hd
       obtain ⟨⟨a10, c10, rfl, ho10⟩, -⟩ := hd
       simp only [putAll, Act.put, List.setIfInBounds_toArray, List.set_cons_succ, List.set_cons_zero]
       have hEX := hI.ex
       clear hI hn hall
       go_wp2_with fail
       exact ⟨⟨k + 1, a10, ln + 1, c10, by omega, by go_num, rfl, by rw [HSN.out, HS1.out]; exact ho10, hEX⟩, by simp only [intOf]; omega⟩
     ·have HS1 : Hid (lonS LG ⟨cs, at_⟩ g = []) := Lib.hid (by unfold lonS; rw [if_neg (by rw [HTN.out]; decide), HZL.out, if_neg hz])
      go_wp2_with fail
      exact ⟨⟨k + 1, la, ln, lc, by omega, by go_num, rfl, by rw [HSN.out, HS1.out, List.append_nil]; exact HOW5.out.ext hM9, HE5.out.trans hM9⟩, by simp only [intOf]; omega⟩
  ·obtain rfl : hn = k := by omega
   rw [List.take_of_length_le (by rw [HLEN.out]; exact Nat.le_refl _)] at ho
   go_wp2_with fail
   rw [Exit.noGoto_ret]
   go_ret
   exact ⟨la, ln, lc, rfl, ho.mono HXV.out.sz, HXV.out.trans hE⟩
end Go.Proofs.YtacicanjmleikaaGreatDoor
