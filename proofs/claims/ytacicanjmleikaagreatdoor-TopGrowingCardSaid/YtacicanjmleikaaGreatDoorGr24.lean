
import Derived.Test.YtacicanjmleikaaGreatDoorGr23
/- A part of the proof. -/
namespace Go.Proofs.YtacicanjmleikaaGreatDoor
open Go.RowKit Go.Sort Go.Shelf Go.Maps
set_option linter.unusedSimpArgs false
set_option linter.unusedVariables false
set_option maxRecDepth 100000
theorem lenlit24q {vs : List Value} (h : vs.length = 24) : ∃ x0 x1 x2 x3 x4 x5 x6 x7 x8 x9 x10 x11 x12 x13 x14 x15 x16 x17 x18 x19 x20 x21 x22 x23 : Value, vs = [x0, x1, x2, x3, x4, x5, x6, x7, x8, x9, x10, x11, x12, x13, x14, x15, x16, x17, x18, x19, x20, x21, x22, x23] := by
 obtain ⟨x0, v0, rfl, h0⟩ := len_cons h
 obtain ⟨x1, v1, rfl, h1⟩ := len_cons h0
 obtain ⟨x2, v2, rfl, h2⟩ := len_cons h1
 obtain ⟨x3, v3, rfl, h3⟩ := len_cons h2
 obtain ⟨x4, v4, rfl, h4⟩ := len_cons h3
 obtain ⟨x5, v5, rfl, h5⟩ := len_cons h4
 obtain ⟨x6, v6, rfl, h6⟩ := len_cons h5
 obtain ⟨x7, v7, rfl, h7⟩ := len_cons h6
 obtain ⟨x8, v8, rfl, h8⟩ := len_cons h7
 obtain ⟨x9, v9, rfl, h9⟩ := len_cons h8
 obtain ⟨x10, v10, rfl, h10⟩ := len_cons h9
 obtain ⟨x11, v11, rfl, h11⟩ := len_cons h10
 obtain ⟨x12, v12, rfl, h12⟩ := len_cons h11
 obtain ⟨x13, v13, rfl, h13⟩ := len_cons h12
 obtain ⟨x14, v14, rfl, h14⟩ := len_cons h13
 obtain ⟨x15, v15, rfl, h15⟩ := len_cons h14
 obtain ⟨x16, v16, rfl, h16⟩ := len_cons h15
 obtain ⟨x17, v17, rfl, h17⟩ := len_cons h16
 obtain ⟨x18, v18, rfl, h18⟩ := len_cons h17
 obtain ⟨x19, v19, rfl, h19⟩ := len_cons h18
 obtain ⟨x20, v20, rfl, h20⟩ := len_cons h19
 obtain ⟨x21, v21, rfl, h21⟩ := len_cons h20
 obtain ⟨x22, v22, rfl, h22⟩ := len_cons h21
 obtain ⟨x23, v23, rfl, h23⟩ := len_cons h22
 obtain rfl := len_nil h23
 exact ⟨x0, x1, x2, x3, x4, x5, x6, x7, x8, x9, x10, x11, x12, x13, x14, x15, x16, x17, x18, x19, x20, x21, x22, x23, rfl⟩
theorem firstE_lt {es : List En} {d : Int} (h0 : 0 ≤ firstE es d) : firstE es d < es.length := by
 unfold firstE at h0 ⊢
 cases h : es.findIdx? (fun e => decide (e.d = d)) with
 | none => rw [h] at h0; simp only at h0; omega
 | some i =>
  have := (List.findIdx?_eq_some_iff_getElem.1 h).1
  simp only
  omega
theorem size_setCells (b : Nat) : ∀ (vs : List Value) (o : Nat) (W : World), (W.setCells b o vs).heap.size = W.heap.size
 | [], _, _ => rfl
 | v :: r, o, W => by
  show ((W.setCell ⟨b, o, none⟩ v).setCells b (o + 1) r).heap.size = _
  rw [size_setCells b r (o + 1)]
  simp [World.setCell]
theorem heap_setCells_other (b : Nat) {g : Nat} (h : g ≠ b) : ∀ (vs : List Value) (o : Nat) (W : World), (W.setCells b o vs).heap[g]? = W.heap[g]?
 | [], _, _ => rfl
 | v :: r, o, W => by
  show ((W.setCell ⟨b, o, none⟩ v).setCells b (o + 1) r).heap[g]? = _
  rw [heap_setCells_other b h r (o + 1), heap_setCell_other W ⟨b, o, none⟩ g v h]
theorem QOk.lift {lg : Int → List En} {B B' : Nat} {g h : Hd} {z : Nat} {W : World} {q : HpR} (H : QOk lg B g h z W q) (hb : B' ≤ B) : QOk lg B' g h z W q := ⟨H.g_, H.h_, H.z_, H.e_, H.pth, H.grow, fun b off e h0 => Nat.le_trans hb (H.hi b off e h0)⟩
theorem QOk.keepC {lg : Int → List En} {B b : Nat} {g h : Hd} {z : Nat} {W : World} {q : HpR} {vs : List Value} (H : QOk lg B g h z W q) (hne : ∀ p off, q.rc.pa = some ⟨p, off, none⟩ → 0 < q.rc.pn → p ≠ b) : QOk lg B g h z (W.setCells b 0 vs) q := ⟨H.g_, H.h_, H.z_, H.e_, Sl.otherCells hne vs 0 H.pth, H.grow, H.hi⟩
structure QId (lg : Int → List En) (g h : Hd) (z : Nat) (q : HpR) : Prop where
 g_ : q.h = g
 h_ : q.rc.h = h
 z_ : q.rc.i = z
 e_ : q.rc.e = nthR (lg h.o) z
theorem QOk.id {lg : Int → List En} {B : Nat} {g h : Hd} {z : Nat} {W : World} {q : HpR} (H : QOk lg B g h z W q) : QId lg g h z q := ⟨H.g_, H.h_, H.z_, H.e_⟩
theorem QId.ok {lg : Int → List En} {a : Option Addr} {g h : Hd} {z : Nat} {W : World} {q : HpR} (H : QId lg g h z q) (ho : HpO lg a W q) : QOk lg 0 g h z W q := ⟨H.g_, H.h_, H.z_, H.e_, ho.pth, ho.grow, fun b off e h0 => Nat.zero_le b⟩
def PathG (b9 B : Nat) (path : List Int) (W : World) (pa : Option Addr) (pn pc : Nat) : Prop := PathF b9 path W pa pn pc ∧ ∀ b off, pa = some ⟨b, off, none⟩ → 0 < pn → b < B
theorem PathG.ext {b9 B : Nat} {path : List Int} {W W' : World} {pa : Option Addr} {pn pc : Nat} (h : PathG b9 B path W pa pn pc) (hx : Ext W W') : PathG b9 B path W' pa pn pc := ⟨⟨h.1.1.ext hx, h.1.2⟩, h.2⟩
theorem PathG.keep {b9 B : Nat} {path : List Int} {W W' : World} {pa : Option Addr} {pn pc : Nat} (h : PathG b9 B path W pa pn pc) (hk : ∀ g, g ≠ b9 → g < B → W'.heap[g]? = W.heap[g]?) : PathG b9 B path W' pa pn pc :=
 ⟨⟨h.1.1.below fun b off e h0 => hk b (by have := h.1.2 b off e h0; omega) (h.2 b off e h0), h.1.2⟩, h.2⟩
structure FiK (V1 : World) (b19 : Nat) (h l : Hd) (i k : Nat) (e e2 : En) (path path2 : List Int) (pa : Option Addr) (pn pc : Nat) (listed : Nat → Bool) (W : World) : Prop where
 ext : Ext V1 W
 lt : b19 < W.heap.size
 p : PathF b19 path W pa pn pc
 a0 : listed 14 = false → Bk W b19 47 #[.int .i64 h.o, .int .i64 h.s, .int .u64 h.r, .int .i64 h.C, .int .i64 h.S, .int .i64 i, .int .u64 e.d, .int .i64 e.lo, .int .i64 e.hi, .slice pa pn pc, .slice none 0 0, .slice none 0 0, .int .i64 0, .int .i64 0, .int .u64 0, .int .i64 0, .int .i64 0, .int .i64 0, .int .u64 0, .int .i64 0, .int .i64 0, .slice none 0 0]
 a1 : listed 14 = true → ∃ qa qn qc, Bk W b19 47 #[.int .i64 h.o, .int .i64 h.s, .int .u64 h.r, .int .i64 h.C, .int .i64 h.S, .int .i64 i, .int .u64 e.d, .int .i64 e.lo, .int .i64 e.hi, .slice pa pn pc, .slice none 0 0, .slice none 0 0, .int .i64 l.o, .int .i64 l.s, .int .u64 l.r, .int .i64 l.C, .int .i64 l.S, .int .i64 k, .int .u64 e2.d, .int .i64 e2.lo, .int .i64 e2.hi, .slice qa qn qc] ∧ PathF b19 path2 W qa qn qc
theorem FiK.other {V1 : World} {b19 : Nat} {h l : Hd} {i k : Nat} {e e2 : En} {path path2 : List Int} {pa : Option Addr} {pn pc : Nat} {listed : Nat → Bool} {W : World} (H : FiK V1 b19 h l i k e e2 path path2 pa pn pc listed W) {j : Nat} (hj : j ≠ 14) : FiK V1 b19 h l i k e e2 path path2 pa pn pc (updE listed j) W := by
 have e9 : updE listed j 14 = listed 14 := by simp [updE, hj.symm]
 exact ⟨H.ext, H.lt, H.p, by rw [e9]; exact H.a0, by rw [e9]; exact H.a1⟩
theorem FiK.ext1 {V1 : World} {b19 : Nat} {h l : Hd} {i k : Nat} {e e2 : En} {path path2 : List Int} {pa : Option Addr} {pn pc : Nat} {listed : Nat → Bool} {W W' : World} (H : FiK V1 b19 h l i k e e2 path path2 pa pn pc listed W) (hx : Ext W W') : FiK V1 b19 h l i k e e2 path path2 pa pn pc listed W' :=
 ⟨H.ext.trans hx, Nat.lt_of_lt_of_le H.lt hx.sz, ⟨H.p.1.ext hx, H.p.2⟩, fun h9 => (H.a0 h9).ext hx, fun h9 => let ⟨qa, qn, qc, q1, q2, q3⟩ := H.a1 h9; ⟨qa, qn, qc, q1.ext hx, q2.ext hx, q3⟩⟩
def FdY (w : World) (lg : Int → List En) (c : Ch) (i k : Nat) : Ending → World → Prop := fun e w' => ∃ CL r1 r2 fa fn fc qs, e = .returned (.tuple #[.agg CL.toArray, .bool true, .int .i64 0]) ∧ PrS lg c i k w' CL r1 r2 fa fn fc qs ∧ Ext w w'
set_option maxHeartbeats 16000000 in
theorem find_yes {a : Option Addr} {n c : Nat} {os : List OfR} {es : Nat → List En} {ha : Option Addr} {hn hc : Nat} {hs : List Hd} {w : World} (H : ArcIn w a n c os es ha hn hc hs) (HH : ∀ k, k < hn → Held os es n (nthR hs k))
  (j1 i j2 k : Nat) (hj1 : j1 < n) (hi : i < (nthR os j1).n) (hj2 : j2 < n) (hk : k < (nthR os j2).n) {c0 : Ch} (hS : srch (lgO os es n) hs (okc (nthR os j2).id k) 4 (levA hs (nthR os j1).id i) = some c0) (ht : TB w) :
  Calls Tryz.prog 12 #[.slice a n c, .slice ha hn hc, .int .i64 (nthR os j1).id, .int .i64 i, .int .i64 (nthR os j2).id, .int .i64 k] w (FdY w (lgO os es n) c0 i k) := by
 obtain ⟨hch, hlen4, hlo, hls, hla⟩ := srch_ok hS
 have h4096 : ∀ j, j < n → (nthR os j).n ≤ 4096 := fun j hj => by
  have e1 := (H.off j hj).1.hlen
  rw [← e1]
  exact (offB_iff.1 (H.off j hj).2).2.1
 obtain ⟨chs, cat⟩ := c0
 simp only at hlen4 hlo hls hla
 have hlp := hch.len
 simp only at hlp
 obtain ⟨LG, hLG⟩ : ∃ f, lgO os es n = f := ⟨_, rfl⟩
 have HHD : Hid (∀ x, x < chs.length → ∃ (j s : Nat), j < n ∧ (nthR os j).id = (nthR chs x).o ∧ LG (nthR chs x).o = es j ∧ (nthR chs x).s = s ∧ s ≤ (nthR os j).n ∧ rootT (vals ((es j).take s)) = (nthR chs x).r ∧ (nthR chs x).Ok) := Lib.hid (fun x hx => by
  obtain ⟨kk, hk1, e⟩ := List.mem_iff_getElem.1 (hch.mem x hx)
  have hkk : kk < hn := by rw [← H.hrow.hlen]; exact hk1
  have e2 : nthR hs kk = nthR chs x := by rw [nthR_get hk1]; exact e
  obtain ⟨j, hj, hid, hlg, s, hs, hsn, hr⟩ := (HH kk hkk).lg H.asc
  have hok := H.hrow.wfAt hkk
  rw [e2] at hid hlg hs hr hok
  rw [hLG] at hlg
  exact ⟨j, s, hj, hid, hlg, hs, hsn, hr, hok⟩)
 have HNA := Lib.hid (fun (W : World) (hx : Ext w W) => newArchive_yes (H.ext hx) (ht.ext hx))
 have HIN := Lib.hid H
 have HHE := Lib.hid HH
 have HTB := Lib.hid ht
 have HHS := Lib.hid (fun (b mb : Nat) (W : World) (hA : Arc W b mb a n c os es ha hn hc hs) => has_yes hA j1 i hj1 hi)
 have HHT := Lib.hid (fun (b mb : Nat) (W : World) (hA : Arc W b mb a n c os es ha hn hc hs) => has_yes hA j2 k hj2 hk)
 have HSE : Hid (∀ (b mb : Nat) (W : World) (hx : Ext w W) (hA : Arc W b mb a n c os es ha hn hc hs), Calls Tryz.prog 34 #[.pointer (some ⟨b, 0, none⟩), .int .i64 (nthR os j1).id, .int .i64 i, .int .i64 (nthR os j2).id, .int .i64 k] W fun e w' => ∃ ca cc, e = .returned (.tuple #[.agg #[.slice ca chs.length cc, .int .i64 cat], .bool true]) ∧ Rw w' ca chs.length cc chs ∧ Ext W w') := Lib.hid (by
  intro b mb W hx hA
  have h := search_any hA HH (nthR os j1).id i (nthR os j2).id k (by have := h4096 j1 hj1; simp [Lit.wf, IntKind.min, IntKind.max, IntKind.bits, IntKind.signed]; omega) (ht.ext hx)
  rw [hS] at h
  exact h)
 have HLKX := Lib.hid (fun (b mb : Nat) (W : World) (hA : Arc W b mb a n c os es ha hn hc hs) (j : Nat) (hj : j < n) (id : Int) (e : (nthR os j).id = id) => hA.look false hj e)
 have HOF := Lib.hid H.off
 rw [hLG]
 have hfo := hch.fst
 simp only at hfo
 rw [← hfo.1] at HHS HSE ⊢
 rw [← hlo] at HHT HSE ⊢
 obtain ⟨j0, s0, hj0, hid0, hlg0, hs0, hsn0, hr0, hok0⟩ := HHD.out 0 (by omega)
 have HP1 := Lib.hid (fun (W : World) (hx : Ext w W) => oprove_yes (nthR os j0).id (nthR os j0).a (nthR os j0).n (nthR os j0).c (es j0) s0 i (nthR chs 0).r (nthR chs 0).C (nthR chs 0).S W ((H.off j0 hj0).1.ext hx) (H.off j0 hj0).2 (by have := hok0.s; omega) hsn0 (by have := hfo.2; omega) hr0 (by rw [hid0, ← hs0]; exact hok0) (ht.ext hx))
 have hlE : lastH chs = nthR chs (chs.length - 1) := rfl
 obtain ⟨j9, s9, hj9, hid9, hlg9, hs9, hsn9, hr9, hok9⟩ := HHD.out (chs.length - 1) (by omega)
 rw [← hlE] at hid9 hlg9 hs9 hr9 hok9
 have HP2 := Lib.hid (fun (W : World) (hx : Ext w W) => oprove_yes (nthR os j9).id (nthR os j9).a (nthR os j9).n (nthR os j9).c (es j9) s9 k (lastH chs).r (lastH chs).C (lastH chs).S W ((H.off j9 hj9).1.ext hx) (H.off j9 hj9).2 (by have := hok9.s; omega) hsn9 (by omega) hr9 (by rw [hid9, ← hs9]; exact hok9) (ht.ext hx))
 have HLK := Lib.hid (fun (b mb : Nat) (W : World) (hA : Arc W b mb a n c os es ha hn hc hs) => hA.look false hj0 hid0)
 have HLK2 := Lib.hid (fun (b mb : Nat) (W : World) (hA : Arc W b mb a n c os es ha hn hc hs) => hA.look false hj9 hid9)
 simp only [if_false, Bool.false_eq_true, ofV] at HLK HLK2 HLKX
 rw [hid0] at HLK
 rw [hid9] at HLK2
 rw [hid0, ← hs0] at HP1
 rw [hid9, ← hs9] at HP2
 have HPE1 : Hid (inclT (vals ((LG (nthR chs 0).o).take (nthR chs 0).s.toNat)) i = inclT (vals ((es j0).take s0)) i) := Lib.hid (by rw [hlg0, hs0, Int.toNat_natCast])
 have HPE2 : Hid (inclT (vals ((LG (lastH chs).o).take (lastH chs).s.toNat)) k = inclT (vals ((es j9).take s9)) k) := Lib.hid (by rw [hlg9, hs9, Int.toNat_natCast])
 have HEE1 : Hid (nthR (LG (nthR chs 0).o) i = nthR (es j0) i) := Lib.hid (by rw [hlg0])
 have HEE2 : Hid (nthR (LG (lastH chs).o) k = nthR (es j9) k) := Lib.hid (by rw [hlg9])
 rw [hLG] at hch
 have HHO := Lib.hid hch
 have HR4 := Lib.hid hlen4
 clear H HH ht hS hLG hfo hlo hls hla hch h4096 hi hk hj1 hj2 hid0 hlg0 hs0 hsn0 hr0 hok0 hj0 hid9 hlg9 hs9 hsn9 hr9 hok9 hj9 hlen4
 obtain ⟨rn, hrn⟩ : ∃ n, chs.length = n := ⟨_, rfl⟩
 rw [hrn] at HSE HHD HR4 hlE hlp
 have HRN := Lib.hid hrn
 clear hrn
 have hrn0 : 0 < rn := hlp
 have hrni : (0 : Int) < (rn : Int) := by omega
 obtain ⟨h, hH0⟩ : ∃ h, nthR chs 0 = h := ⟨_, rfl⟩
 have HH0 := Lib.hid hH0
 obtain ⟨l, hL0⟩ : ∃ h, lastH chs = h := ⟨_, rfl⟩
 have HLE : Hid (nthR chs (rn - 1) = l) := Lib.hid (by rw [← hlE]; exact hL0)
 have HL0 := Lib.hid hL0
 rw [hH0] at HP1 HLK HPE1 HEE1 HHS HSE ⊢
 rw [hL0] at HP2 HLK2 HPE2 HEE2 HHT HSE ⊢
 clear hH0 hL0 hlE
 have hZ := Bk.new w 47 #[.int .i64 0, .int .i64 0, .int .u64 0, .int .i64 0, .int .i64 0, .int .i64 0, .int .u64 0, .int .i64 0, .int .i64 0, .slice none 0 0, .slice none 0 0, .slice none 0 0, .int .i64 0, .int .i64 0, .int .u64 0, .int .i64 0, .int .i64 0, .int .i64 0, .int .u64 0, .int .i64 0, .int .i64 0, .slice none 0 0]
 have hx : Ext w (w.alloc (.cells #[.int .i64 0, .int .i64 0, .int .u64 0, .int .i64 0, .int .i64 0, .int .i64 0, .int .u64 0, .int .i64 0, .int .i64 0, .slice none 0 0, .slice none 0 0, .slice none 0 0, .int .i64 0, .int .i64 0, .int .u64 0, .int .i64 0, .int .i64 0, .int .i64 0, .int .u64 0, .int .i64 0, .int .i64 0, .slice none 0 0] 47)) := (Ext.refl w).alloc _
 go_enter Tryz.func12, Tryz.ntmps12
 go_upto_region 1 with fail
 generalize w.alloc (.cells #[.int .i64 0, .int .i64 0, .int .u64 0, .int .i64 0, .int .i64 0, .int .i64 0, .int .u64 0, .int .i64 0, .int .i64 0, .slice none 0 0, .slice none 0 0, .slice none 0 0, .int .i64 0, .int .i64 0, .int .u64 0, .int .i64 0, .int .i64 0, .int .i64 0, .int .u64 0, .int .i64 0, .int .i64 0, .slice none 0 0] 47) = V at *
 obtain ⟨b12, hb12⟩ : ∃ b, w.heap.size = b := ⟨_, rfl⟩
 have HB12 := Lib.hid hb12
 rw [hb12] at hZ ⊢
 clear hb12
 go_wp2_with (go_at_call 31; refine (HNA.out _ hx).mono ?_; rintro e9 w1 ⟨b, mb, rfl, hAB, hAM, hx1⟩; refine hold ?_)
 refine held ?_
 have hA : Arc w1 b mb a n c os es ha hn hc hs := ⟨HIN.out.ext (hx.trans hx1), hAB, hAM⟩
 clear hAB hAM
 replace hx := hx.trans hx1
 replace hZ := hZ.ext hx1
 clear hx1 HNA
 go_wp2_with (go_at_call 32; refine (HHS.out _ _ _ hA).mono ?_; rintro e9 w2 ⟨rfl, hx1⟩; refine hold ?_)
 refine held ?_
 replace hA := hA.ext hx1
 replace hx := hx.trans hx1
 replace hZ := hZ.ext hx1
 clear hx1 HHS
 go_wp2_with (go_at_call 32; refine (HHT.out _ _ _ hA).mono ?_; rintro e9 w3 ⟨rfl, hx1⟩; refine hold ?_)
 refine held ?_
 replace hA := hA.ext hx1
 replace hx := hx.trans hx1
 replace hZ := hZ.ext hx1
 clear hx1 HHT
 have HWH := Lib.hid (whole_yes hA HHE.out (HTB.out.ext hx))
 go_wp2_with (go_at_call 33; refine HWH.out.mono ?_; rintro e9 w4 ⟨rfl, hx1⟩; refine hold ?_)
 refine held ?_
 replace hA := hA.ext hx1
 replace hx := hx.trans hx1
 replace hZ := hZ.ext hx1
 clear hx1 HWH
 go_wp2_with (go_at_call 34; refine (HSE.out _ _ _ hx hA).mono ?_; rintro e9 w5 ⟨ca, cc, rfl, hrw, hx1⟩; refine hold ?_)
 refine held ?_
 replace hA := hA.ext hx1
 replace hx := hx.trans hx1
 replace hZ := hZ.ext hx1
 clear hx1 HSE
 have hC := Bk.new w5 90 #[.slice ca rn cc, .int .i64 cat]
 have hx1 : Ext w5 (w5.alloc (.cells #[.slice ca rn cc, .int .i64 cat] 90)) := (Ext.refl w5).alloc _
 go_upto_region 11 with fail
 replace hA := hA.ext hx1
 replace hx := hx.trans hx1
 replace hZ := hZ.ext hx1
 replace hrw := hrw.ext hx1
 clear hx1
 generalize w5.alloc (.cells #[.slice ca rn cc, .int .i64 cat] 90) = V1 at *
 obtain ⟨b17, hb17⟩ : ∃ b, w5.heap.size = b := ⟨_, rfl⟩
 rw [hb17] at hC ⊢
 clear hb17
 have hQ := Bk.new V1 47 #[.int .i64 0, .int .i64 0, .int .u64 0, .int .i64 0, .int .i64 0, .int .i64 0, .int .u64 0, .int .i64 0, .int .i64 0, .slice none 0 0, .slice none 0 0, .slice none 0 0, .int .i64 0, .int .i64 0, .int .u64 0, .int .i64 0, .int .i64 0, .int .i64 0, .int .u64 0, .int .i64 0, .int .i64 0, .slice none 0 0]
 have hx1 : Ext V1 (V1.alloc (.cells #[.int .i64 0, .int .i64 0, .int .u64 0, .int .i64 0, .int .i64 0, .int .i64 0, .int .u64 0, .int .i64 0, .int .i64 0, .slice none 0 0, .slice none 0 0, .slice none 0 0, .int .i64 0, .int .i64 0, .int .u64 0, .int .i64 0, .int .i64 0, .int .i64 0, .int .u64 0, .int .i64 0, .int .i64 0, .slice none 0 0] 47)) := (Ext.refl V1).alloc _
 go_upto_region 12 with fail
 replace hx1 : Ext V1 (V1.alloc (.cells #[.int .i64 0, .int .i64 0, .int .u64 0, .int .i64 0, .int .i64 0, .int .i64 0, .int .u64 0, .int .i64 0, .int .i64 0, .slice none 0 0, .slice none 0 0, .slice none 0 0, .int .i64 0, .int .i64 0, .int .u64 0, .int .i64 0, .int .i64 0, .int .i64 0, .int .u64 0, .int .i64 0, .int .i64 0, .slice none 0 0] 47)) := (Ext.refl V1).alloc _
 obtain ⟨xc, oc1, rfl, hc1⟩ := hrw.at (by omega)
 have hc1a := hc1
 have hq := hc1 0 (by omega)
 rw [Nat.zero_mul, Nat.add_zero, HH0.out] at hq
 have HRB := Lib.hid hrw.bd
 have HCX := Lib.hid hc1a
 clear hc1
 generalize V1.alloc (.cells #[.int .i64 0, .int .i64 0, .int .u64 0, .int .i64 0, .int .i64 0, .int .i64 0, .int .u64 0, .int .i64 0, .int .i64 0, .slice none 0 0, .slice none 0 0, .slice none 0 0, .int .i64 0, .int .i64 0, .int .u64 0, .int .i64 0, .int .i64 0, .int .i64 0, .int .u64 0, .int .i64 0, .int .i64 0, .slice none 0 0] 47) = V2 at *
 obtain ⟨b19, hb19⟩ : ∃ b, V1.heap.size = b := ⟨_, rfl⟩
 have HLT12 : Hid (b12 < b19) := Lib.hid (by have := hZ.lt; omega)
 have HB19 : Hid (V1.heap.size ≤ b19) := Lib.hid (by omega)
 rw [hb19] at hQ ⊢
 clear hb19
 generalize (nthR os j0).a = oa at *
 generalize (nthR os j0).n = on at *
 generalize (nthR os j0).c = oc at *
 generalize (nthR os j9).a = oa2 at *
 generalize (nthR os j9).n = on2 at *
 generalize (nthR os j9).c = oc2 at *
 generalize inclT (vals ((es j0).take s0)) i = path at *
 generalize inclT (vals ((es j9).take s9)) k = path2 at *
 generalize nthR (es j0) i = e at *
 generalize nthR (es j9) k = e2 at *
 have HZ := Lib.hid hZ
 have HXV := Lib.hid hx
 have HA := Lib.hid hA
 have HC := Lib.hid hC
 have HD1 : Hid (h = nthR chs 0 ∧ e = nthR (LG (nthR chs 0).o) i) := Lib.hid ⟨HH0.out.symm, by rw [HH0.out, HEE1.out]⟩
 have HD2 : Hid (l = lastH chs ∧ e2 = nthR (LG (lastH chs).o) k) := Lib.hid ⟨HL0.out.symm, by rw [HL0.out, HEE2.out]⟩
 have HI : FiI V1 b19 h i e path (fun _ => false) { V2 with drawn := V2.drawn + 1 } := ⟨hx1.drew, hQ.lt, fun _ => hQ, fun h9 => by cases h9⟩
 refine region_relyF (FiI V1 b19 h i e path) [some 65, some 66, some 67, some 68, some 69, some 70, some 71, some 72, some 73, some 74, some 75, some 76, some 64, some 77, some 78, some 79, none] [[], [0], [0, 1], [0, 1, 2], [], [0, 1, 2, 3, 4], [], [6], [6, 7], [6, 7, 8], [], [0, 1, 2, 3, 4, 5, 6, 7, 8, 9, 10], [0, 1, 2, 3, 4, 5, 6, 7, 8, 9, 10, 11], [0, 1, 2, 3, 4, 5, 6, 7, 8, 9, 10, 11, 12], [0, 1, 2, 3, 4, 5, 6, 7, 8, 9, 10, 11, 12], [0, 1, 2, 3, 4, 5, 6, 7, 8, 9, 10, 11, 12, 13], [0, 1, 2, 3, 4, 5, 6, 7, 8, 9, 10, 11, 12, 13, 15]] [[], [0], [1], [2], [], [3, 4], [], [6], [7], [8], [], [5, 9, 10], [11], [12], [12], [], [13, 15]] [none, none, none, none, none, none, none, none, none, none, none, none, none, none, none, none, none] [false, false, false, false, false, false, false, false, false, false, false, false, false, false, false, false, false] [.one ((.pointer (some ⟨b, 0, none⟩))), .one ((.pointer (some ⟨b, 0, none⟩))), .one ((.pointer (some ⟨b, 0, none⟩))), .one ((.map (some mb))), .one ((.int .i64 h.o)), .one ((.agg #[.int .i64 h.o, .slice oa on oc])), .one ((.pointer (some ⟨b17, 0, none⟩))), .one ((.slice (some ⟨xc, oc1, none⟩) rn cc)), .one ((.pointer (some ⟨xc, oc1, none⟩))), .one ((.agg #[.int .i64 h.o, .int .i64 h.s, .int .u64 h.r, .int .i64 h.C, .int .i64 h.S])), .one ((.int .i64 i)), RFr h i e b19 path, RFr h i e b19 path, RFs h i e b19 path, .one ((.int .i64 0)), .one ((.pointer (some ⟨b19, 0, none⟩))), .any] (by kernel_rfl) (by kernel_rfl) rfl HI ?_ ?_
 ·refine stepsF_cons ?_ ?_
  ·intro listed vs W' hl hI hd hs hn hu hz ho9
   refine hold ?_
   obtain ⟨x0, x1, x2, x3, x4, x5, x6, x7, x8, x9, x10, x11, x12, x13, x14, x15, x16, rfl⟩ := lenlit17 hl; clear hl
   refine held ?_
   simp only [putAll, Act.put, List.setIfInBounds_toArray, List.set_cons_succ, List.set_cons_zero]
   go_wp2_with fail
   exact relyE_done _ rfl rfl (Ext.refl _) (hI.other (by decide))
  refine stepsF_cons ?_ ?_
  ·intro listed vs W' hl hI hd hs hn hu hz ho9
   refine hold ?_
   obtain ⟨x0, x1, x2, x3, x4, x5, x6, x7, x8, x9, x10, x11, x12, x13, x14, x15, x16, rfl⟩ := lenlit17 hl; clear hl
   simp only [factsL, atL, refV, List.getElem?_cons_succ, List.getElem?_cons_zero, List.getD_cons_succ, List.getD_cons_zero, RelL.one, RelL.any, RelL.blk, RelL.law, RFr, RFs] at hd
   obtain ⟨rfl, -⟩ := hd
   refine held ?_
   simp only [putAll, Act.put, List.setIfInBounds_toArray, List.set_cons_succ, List.set_cons_zero]
   go_wp2_with fail
   exact relyE_done _ rfl rfl (Ext.refl _) (hI.other (by decide))
  refine stepsF_cons ?_ ?_
  ·intro listed vs W' hl hI hd hs hn hu hz ho9
   refine hold ?_
   obtain ⟨x0, x1, x2, x3, x4, x5, x6, x7, x8, x9, x10, x11, x12, x13, x14, x15, x16, rfl⟩ := lenlit17 hl; clear hl
   simp only [factsL, atL, refV, List.getElem?_cons_succ, List.getElem?_cons_zero, List.getD_cons_succ, List.getD_cons_zero, RelL.one, RelL.any, RelL.blk, RelL.law, RFr, RFs] at hd
   obtain ⟨rfl, -⟩ := hd
   refine held ?_
   simp only [putAll, Act.put, List.setIfInBounds_toArray, List.set_cons_succ, List.set_cons_zero]
   go_wp2_with fail
   exact relyE_done _ rfl rfl (Ext.refl _) (hI.other (by decide))
  refine stepsF_cons ?_ ?_
  ·intro listed vs W' hl hI hd hs hn hu hz ho9
   refine hold ?_
   obtain ⟨x0, x1, x2, x3, x4, x5, x6, x7, x8, x9, x10, x11, x12, x13, x14, x15, x16, rfl⟩ := lenlit17 hl; clear hl
   simp only [factsL, atL, refV, List.getElem?_cons_succ, List.getElem?_cons_zero, List.getD_cons_succ, List.getD_cons_zero, RelL.one, RelL.any, RelL.blk, RelL.law, RFr, RFs] at hd
   obtain ⟨rfl, -⟩ := hd
   refine held ?_
   simp only [putAll, Act.put, List.setIfInBounds_toArray, List.set_cons_succ, List.set_cons_zero]
   have hA9 := hA.box.ext hI.ext
   have d0 := hA9.c 0 _ rfl
   go_wp2_with fail
   exact relyE_done _ rfl rfl (Ext.refl _) (hI.other (by decide))
  refine stepsF_cons ?_ ?_
  ·intro listed vs W' hl hI hd hs hn hu hz ho9
   refine hold ?_
   obtain ⟨x0, x1, x2, x3, x4, x5, x6, x7, x8, x9, x10, x11, x12, x13, x14, x15, x16, rfl⟩ := lenlit17 hl; clear hl
   refine held ?_
   simp only [putAll, Act.put, List.setIfInBounds_toArray, List.set_cons_succ, List.set_cons_zero]
   go_wp2_with fail
   exact relyE_done _ rfl rfl (Ext.refl _) (hI.other (by decide))
  refine stepsF_cons ?_ ?_
  ·intro listed vs W' hl hI hd hs hn hu hz ho9
   refine hold ?_
   obtain ⟨x0, x1, x2, x3, x4, x5, x6, x7, x8, x9, x10, x11, x12, x13, x14, x15, x16, rfl⟩ := lenlit17 hl; clear hl
   simp only [factsL, atL, refV, List.getElem?_cons_succ, List.getElem?_cons_zero, List.getD_cons_succ, List.getD_cons_zero, RelL.one, RelL.any, RelL.blk, RelL.law, RFr, RFs] at hd
   obtain ⟨rfl, rfl, -⟩ := hd
   refine held ?_
   simp only [putAll, Act.put, List.setIfInBounds_toArray, List.set_cons_succ, List.set_cons_zero]
   have hrun := HLK.out b mb W' (hA.ext hI.ext)
   go_wp2_with fail
   exact relyE_done _ rfl rfl (Ext.refl _) (hI.other (by decide))
  refine stepsF_cons ?_ ?_
  ·intro listed vs W' hl hI hd hs hn hu hz ho9
   refine hold ?_
   obtain ⟨x0, x1, x2, x3, x4, x5, x6, x7, x8, x9, x10, x11, x12, x13, x14, x15, x16, rfl⟩ := lenlit17 hl; clear hl
   refine held ?_
   simp only [putAll, Act.put, List.setIfInBounds_toArray, List.set_cons_succ, List.set_cons_zero]
   go_wp2_with fail
   exact relyE_done _ rfl rfl (Ext.refl _) (hI.other (by decide))
  refine stepsF_cons ?_ ?_
  ·intro listed vs W' hl hI hd hs hn hu hz ho9
   refine hold ?_
   obtain ⟨x0, x1, x2, x3, x4, x5, x6, x7, x8, x9, x10, x11, x12, x13, x14, x15, x16, rfl⟩ := lenlit17 hl; clear hl
   simp only [factsL, atL, refV, List.getElem?_cons_succ, List.getElem?_cons_zero, List.getD_cons_succ, List.getD_cons_zero, RelL.one, RelL.any, RelL.blk, RelL.law, RFr, RFs] at hd
   obtain ⟨rfl, -⟩ := hd
   refine held ?_
   simp only [putAll, Act.put, List.setIfInBounds_toArray, List.set_cons_succ, List.set_cons_zero]
   have hC9 := hC.ext hI.ext
   have d0 := hC9.c 0 _ rfl
   go_wp2_with fail
   exact relyE_done _ rfl rfl (Ext.refl _) (hI.other (by decide))
  refine stepsF_cons ?_ ?_
  ·intro listed vs W' hl hI hd hs hn hu hz ho9
   refine hold ?_
   obtain ⟨x0, x1, x2, x3, x4, x5, x6, x7, x8, x9, x10, x11, x12, x13, x14, x15, x16, rfl⟩ := lenlit17 hl; clear hl
   simp only [factsL, atL, refV, List.getElem?_cons_succ, List.getElem?_cons_zero, List.getD_cons_succ, List.getD_cons_zero, RelL.one, RelL.any, RelL.blk, RelL.law, RFr, RFs] at hd
   obtain ⟨rfl, -⟩ := hd
   refine held ?_
   simp only [putAll, Act.put, List.setIfInBounds_toArray, List.set_cons_succ, List.set_cons_zero]
   go_wp2_with fail
   exact relyE_done _ rfl rfl (Ext.refl _) (hI.other (by decide))
  refine stepsF_cons ?_ ?_
  ·intro listed vs W' hl hI hd hs hn hu hz ho9
   refine hold ?_
   obtain ⟨x0, x1, x2, x3, x4, x5, x6, x7, x8, x9, x10, x11, x12, x13, x14, x15, x16, rfl⟩ := lenlit17 hl; clear hl
   simp only [factsL, atL, refV, List.getElem?_cons_succ, List.getElem?_cons_zero, List.getD_cons_succ, List.getD_cons_zero, RelL.one, RelL.any, RelL.blk, RelL.law, RFr, RFs] at hd
   obtain ⟨rfl, -⟩ := hd
   refine held ?_
   simp only [putAll, Act.put, List.setIfInBounds_toArray, List.set_cons_succ, List.set_cons_zero]
   have hr9 := rangeAt_ext hq hI.ext
   obtain ⟨d0, d1, d2, d3, d4⟩ := cells_hd hr9
   go_wp2_with fail
   exact relyE_done _ rfl rfl (Ext.refl _) (hI.other (by decide))
  refine stepsF_cons ?_ ?_
  ·intro listed vs W' hl hI hd hs hn hu hz ho9
   refine hold ?_
   obtain ⟨x0, x1, x2, x3, x4, x5, x6, x7, x8, x9, x10, x11, x12, x13, x14, x15, x16, rfl⟩ := lenlit17 hl; clear hl
   refine held ?_
   simp only [putAll, Act.put, List.setIfInBounds_toArray, List.set_cons_succ, List.set_cons_zero]
   go_wp2_with fail
   exact relyE_done _ rfl rfl (Ext.refl _) (hI.other (by decide))
  refine stepsF_cons ?_ ?_
  ·intro listed vs W' hl hI hd hs hn hu hz ho9
   refine hold ?_
   obtain ⟨x0, x1, x2, x3, x4, x5, x6, x7, x8, x9, x10, x11, x12, x13, x14, x15, x16, rfl⟩ := lenlit17 hl; clear hl
   simp only [factsL, atL, refV, List.getElem?_cons_succ, List.getElem?_cons_zero, List.getD_cons_succ, List.getD_cons_zero, RelL.one, RelL.any, RelL.blk, RelL.law, RFr, RFs] at hd
   obtain ⟨rfl, rfl, rfl, -⟩ := hd
   refine held ?_
   simp only [putAll, Act.put, List.setIfInBounds_toArray, List.set_cons_succ, List.set_cons_zero]
   go_wp2_with (go_at_call 22; refine (HP1.out _ (hx.trans hI.ext)).mono ?_; rintro e9 w9 ⟨pa, pn, pc, rfl, hp1, hp2, hx9⟩)
   exact relyE_done _ rfl ⟨pa, pn, pc, rfl, hp1, fun b8 o8 q h0 => by have := hp2 b8 o8 q h0; have := hI.lt; omega⟩ hx9 ((hI.ext1 hx9).other (by decide))
  refine stepsF_cons ?_ ?_
  ·intro listed vs W' hl hI hd hs hn hu hz ho9
   refine hold ?_
   obtain ⟨x0, x1, x2, x3, x4, x5, x6, x7, x8, x9, x10, x11, x12, x13, x14, x15, x16, rfl⟩ := lenlit17 hl; clear hl
   simp only [factsL, atL, refV, List.getElem?_cons_succ, List.getElem?_cons_zero, List.getD_cons_succ, List.getD_cons_zero, RelL.one, RelL.any, RelL.blk, RelL.law, RFr, RFs] at hd
   obtain ⟨⟨pa, pn, pc, rfl, hp⟩, -⟩ := hd
   refine held ?_
   simp only [putAll, Act.put, List.setIfInBounds_toArray, List.set_cons_succ, List.set_cons_zero]
   unfold rcV
   go_wp2_with fail
   exact relyE_done _ rfl ⟨pa, pn, pc, rfl, hp⟩ (Ext.refl _) (hI.other (by decide))
  refine stepsF_cons ?_ ?_
  ·intro listed vs W' hl hI hd hs hn hu hz ho9
   refine hold ?_
   obtain ⟨x0, x1, x2, x3, x4, x5, x6, x7, x8, x9, x10, x11, x12, x13, x14, x15, x16, rfl⟩ := lenlit17 hl; clear hl
   simp only [factsL, atL, refV, List.getElem?_cons_succ, List.getElem?_cons_zero, List.getD_cons_succ, List.getD_cons_zero, RelL.one, RelL.any, RelL.blk, RelL.law, RFr, RFs] at hd
   obtain ⟨⟨pa, pn, pc, rfl, hp⟩, -⟩ := hd
   refine held ?_
   simp only [putAll, Act.put, List.setIfInBounds_toArray, List.set_cons_succ, List.set_cons_zero]
   unfold rcV
   go_wp2_with fail
   exact relyE_done _ rfl ⟨pa, pn, pc, rfl, hp⟩ (Ext.refl _) (hI.other (by decide))
  refine stepsF_cons ?_ ?_
  ·intro listed vs W' hl hI hd hs hn hu hz ho9
   refine hold ?_
   obtain ⟨x0, x1, x2, x3, x4, x5, x6, x7, x8, x9, x10, x11, x12, x13, x14, x15, x16, rfl⟩ := lenlit17 hl; clear hl
   simp only [factsL, atL, refV, List.getElem?_cons_succ, List.getElem?_cons_zero, List.getD_cons_succ, List.getD_cons_zero, RelL.one, RelL.any, RelL.blk, RelL.law, RFr, RFs] at hd
   obtain ⟨⟨pa, pn, pc, rfl, hp⟩, -⟩ := hd
   refine held ?_
   simp only [putAll, Act.put, List.setIfInBounds_toArray, List.set_cons_succ, List.set_cons_zero]
   unfold rcV
   go_wp2_with fail
   exact relyE_done _ rfl rfl (Ext.refl _) (hI.other (by decide))
  refine stepsF_cons ?_ ?_
  ·intro listed vs W' hl hI hd hs hn hu hz ho9
   refine hold ?_
   obtain ⟨x0, x1, x2, x3, x4, x5, x6, x7, x8, x9, x10, x11, x12, x13, x14, x15, x16, rfl⟩ := lenlit17 hl; clear hl
   refine held ?_
   simp only [putAll, Act.put, List.setIfInBounds_toArray, List.set_cons_succ, List.set_cons_zero]
   go_wp2_with fail
   exact relyE_done _ rfl rfl (Ext.refl _) (hI.other (by decide))
  refine stepsF_cons ?_ ?_
  ·intro listed vs W' hl hI hd hs hn hu hz ho9
   refine hold ?_
   obtain ⟨x0, x1, x2, x3, x4, x5, x6, x7, x8, x9, x10, x11, x12, x13, x14, x15, x16, rfl⟩ := lenlit17 hl; clear hl
   simp only [factsL, atL, refV, List.getElem?_cons_succ, List.getElem?_cons_zero, List.getD_cons_succ, List.getD_cons_zero, RelL.one, RelL.any, RelL.blk, RelL.law, RFr, RFs] at hd
   obtain ⟨⟨pa, pn, pc, rfl, hp⟩, rfl, -⟩ := hd
   refine held ?_
   simp only [putAll, Act.put, List.setIfInBounds_toArray, List.set_cons_succ, List.set_cons_zero]
   unfold rcV
   have hQ9 := hI.a0 hz
   have s0 := hQ9.c 0 _ rfl
   have s1 := hQ9.c 1 _ rfl
   have s2 := hQ9.c 2 _ rfl
   have s3 := hQ9.c 3 _ rfl
   have s4 := hQ9.c 4 _ rfl
   have s5 := hQ9.c 5 _ rfl
   have s6 := hQ9.c 6 _ rfl
   have s7 := hQ9.c 7 _ rfl
   have s8 := hQ9.c 8 _ rfl
   have s9 := hQ9.c 9 _ rfl
   have fz := hQ9.free
   go_wp2_with fail
   exact relyE_store undef rfl trivial (by simp [World.setCell]) ⟨(fun _ _ h => h), (fun _ _ h => h), (fun _ _ h => h), (fun _ _ h => h), (fun _ _ h => h), (fun _ _ h => h), (fun _ _ h => h), (fun _ _ h => h), (fun _ _ h => h), (fun _ _ h => h), (fun _ _ h => h), (fun _ _ ⟨pa9, pn9, pc9, q1, q2, q3⟩ => ⟨pa9, pn9, pc9, q1, q2.at0 (fun b off q h0 => Nat.ne_of_gt (q3 b off q h0)) _ _ _ _ _ _ _ _ _ _, q3⟩), (fun _ _ ⟨pa9, pn9, pc9, q1, q2, q3⟩ => ⟨pa9, pn9, pc9, q1, q2.at0 (fun b off q h0 => Nat.ne_of_gt (q3 b off q h0)) _ _ _ _ _ _ _ _ _ _, q3⟩), (fun _ _ ⟨pa9, pn9, pc9, q1, q2, q3⟩ => ⟨pa9, pn9, pc9, q1, q2.at0 (fun b off q h0 => Nat.ne_of_gt (q3 b off q h0)) _ _ _ _ _ _ _ _ _ _, q3⟩), (fun _ _ h => h), (fun _ _ h => h), (fun _ _ h => h), trivial⟩ ⟨hI.ext.at0 HB19.out _ _ _ _ _ _ _ _ _ _, (hQ9.set22at0 _ _ _ _ _ _ _ _ _ _).lt, fun h9 => by simp [updE] at h9, fun _ => ⟨pa, pn, pc, hQ9.set22at0 _ _ _ _ _ _ _ _ _ _, hp.1.at0 (fun b off q h0 => Nat.ne_of_gt (hp.2 b off q h0)) _ _ _ _ _ _ _ _ _ _, hp.2⟩⟩
  exact trivial
 ·intro listed vs W' hl hall hI hd hn
  obtain ⟨x0, x1, x2, x3, x4, x5, x6, x7, x8, x9, x10, x11, x12, x13, x14, x15, x16, rfl⟩ := lenlit17 hl; clear hl
  simp only [List.length_cons, List.length_nil, List.range, List.range.loop, Nat.zero_add, Nat.reduceAdd, factsL, atL, refV, List.getElem?_cons_succ, List.getElem?_cons_zero, List.getD_cons_succ, List.getD_cons_zero, RelL.one, RelL.any, RelL.blk, RelL.law, RFr, RFs] at hd
  obtain ⟨rfl, rfl, rfl, rfl, rfl, rfl, rfl, rfl, rfl, rfl, rfl, ⟨pa, pn, pc, rfl, hp⟩, ⟨pa, pn, pc, rfl, hp⟩, ⟨pa, pn, pc, rfl, hp⟩, rfl, rfl, -, -⟩ := hd
  simp only [putAll, Act.put, List.setIfInBounds_toArray, List.set_cons_succ, List.set_cons_zero]
  obtain ⟨pa, pn, pc, hQ1, hP1⟩ := hI.a1 (hall 16 (by decide))
  have hx3 := hI.ext
  have hlt3 := hI.lt
  clear hI hn hall HP1 hQ HI
  generalize W' = V3 at *
  have HJ : FiK V1 b19 h l i k e e2 path path2 pa pn pc (fun _ => false) { V3 with drawn := V3.drawn + 1 } := ⟨hx3.drew, hlt3, ⟨hP1.1.ext (Ext.refl V3).drew, hP1.2⟩, fun _ => hQ1, fun h9 => by cases h9⟩
  go_upto_region 13 with fail
  refine region_relyF (FiK V1 b19 h l i k e e2 path path2 pa pn pc) [some 81, some 82, some 83, some 84, some 85, some 86, some 87, some 88, some 89, some 90, some 80, some 91, some 92, some 93, none] [[], [0], [0, 1], [0, 1, 2], [], [0, 1, 2, 3, 4], [], [6], [], [0, 1, 2, 3, 4, 5, 6, 7, 8], [0, 1, 2, 3, 4, 5, 6, 7, 8, 9], [0, 1, 2, 3, 4, 5, 6, 7, 8, 9, 10], [0, 1, 2, 3, 4, 5, 6, 7, 8, 9, 10], [0, 1, 2, 3, 4, 5, 6, 7, 8, 9, 10, 11], [0, 1, 2, 3, 4, 5, 6, 7, 8, 9, 10, 11, 13]] [[], [0], [1], [2], [], [3, 4], [], [6], [], [5, 7, 8], [9], [10], [10], [], [11, 13]] [none, none, none, none, none, none, none, none, none, none, none, none, none, none, none] [false, false, false, false, false, false, false, false, false, false, false, false, false, false, false] [.one ((.pointer (some ⟨b, 0, none⟩))), .one ((.pointer (some ⟨b, 0, none⟩))), .one ((.pointer (some ⟨b, 0, none⟩))), .one ((.map (some mb))), .one ((.int .i64 l.o)), .one ((.agg #[.int .i64 l.o, .slice oa2 on2 oc2])), .one ((.agg #[.slice (some ⟨xc, oc1, none⟩) rn cc, .int .i64 cat])), .one ((.agg #[.int .i64 l.o, .int .i64 l.s, .int .u64 l.r, .int .i64 l.C, .int .i64 l.S])), .one ((.int .i64 k)), RFr l k e2 b19 path2, RFr l k e2 b19 path2, RFs l k e2 b19 path2, .one ((.int .i64 0)), .one ((.pointer (some ⟨b19, 12, none⟩))), .any] (by kernel_rfl) (by kernel_rfl) rfl HJ ?_ ?_
  ·refine stepsF_cons ?_ ?_
   ·intro listed vs W' hl hI hd hs hn hu hz ho9
    refine hold ?_
    obtain ⟨x0, x1, x2, x3, x4, x5, x6, x7, x8, x9, x10, x11, x12, x13, x14, rfl⟩ := lenlit15 hl; clear hl
    refine held ?_
    simp only [putAll, Act.put, List.setIfInBounds_toArray, List.set_cons_succ, List.set_cons_zero]
    go_wp2_with fail
    exact relyE_done _ rfl rfl (Ext.refl _) (hI.other (by decide))
   refine stepsF_cons ?_ ?_
   ·intro listed vs W' hl hI hd hs hn hu hz ho9
    refine hold ?_
    obtain ⟨x0, x1, x2, x3, x4, x5, x6, x7, x8, x9, x10, x11, x12, x13, x14, rfl⟩ := lenlit15 hl; clear hl
    simp only [factsL, atL, refV, List.getElem?_cons_succ, List.getElem?_cons_zero, List.getD_cons_succ, List.getD_cons_zero, RelL.one, RelL.any, RelL.blk, RelL.law, RFr, RFs] at hd
    obtain ⟨rfl, -⟩ := hd
    refine held ?_
    simp only [putAll, Act.put, List.setIfInBounds_toArray, List.set_cons_succ, List.set_cons_zero]
    go_wp2_with fail
    exact relyE_done _ rfl rfl (Ext.refl _) (hI.other (by decide))
   refine stepsF_cons ?_ ?_
   ·intro listed vs W' hl hI hd hs hn hu hz ho9
    refine hold ?_
    obtain ⟨x0, x1, x2, x3, x4, x5, x6, x7, x8, x9, x10, x11, x12, x13, x14, rfl⟩ := lenlit15 hl; clear hl
    simp only [factsL, atL, refV, List.getElem?_cons_succ, List.getElem?_cons_zero, List.getD_cons_succ, List.getD_cons_zero, RelL.one, RelL.any, RelL.blk, RelL.law, RFr, RFs] at hd
    obtain ⟨rfl, -⟩ := hd
    refine held ?_
    simp only [putAll, Act.put, List.setIfInBounds_toArray, List.set_cons_succ, List.set_cons_zero]
    go_wp2_with fail
    exact relyE_done _ rfl rfl (Ext.refl _) (hI.other (by decide))
   refine stepsF_cons ?_ ?_
   ·intro listed vs W' hl hI hd hs hn hu hz ho9
    refine hold ?_
    obtain ⟨x0, x1, x2, x3, x4, x5, x6, x7, x8, x9, x10, x11, x12, x13, x14, rfl⟩ := lenlit15 hl; clear hl
    simp only [factsL, atL, refV, List.getElem?_cons_succ, List.getElem?_cons_zero, List.getD_cons_succ, List.getD_cons_zero, RelL.one, RelL.any, RelL.blk, RelL.law, RFr, RFs] at hd
    obtain ⟨rfl, -⟩ := hd
    refine held ?_
    simp only [putAll, Act.put, List.setIfInBounds_toArray, List.set_cons_succ, List.set_cons_zero]
    have hA9 := hA.box.ext hI.ext
    have d0 := hA9.c 0 _ rfl
    go_wp2_with fail
    exact relyE_done _ rfl rfl (Ext.refl _) (hI.other (by decide))
   refine stepsF_cons ?_ ?_
   ·intro listed vs W' hl hI hd hs hn hu hz ho9
    refine hold ?_
    obtain ⟨x0, x1, x2, x3, x4, x5, x6, x7, x8, x9, x10, x11, x12, x13, x14, rfl⟩ := lenlit15 hl; clear hl
    refine held ?_
    simp only [putAll, Act.put, List.setIfInBounds_toArray, List.set_cons_succ, List.set_cons_zero]
    go_wp2_with fail
    exact relyE_done _ rfl rfl (Ext.refl _) (hI.other (by decide))
   refine stepsF_cons ?_ ?_
   ·intro listed vs W' hl hI hd hs hn hu hz ho9
    refine hold ?_
    obtain ⟨x0, x1, x2, x3, x4, x5, x6, x7, x8, x9, x10, x11, x12, x13, x14, rfl⟩ := lenlit15 hl; clear hl
    simp only [factsL, atL, refV, List.getElem?_cons_succ, List.getElem?_cons_zero, List.getD_cons_succ, List.getD_cons_zero, RelL.one, RelL.any, RelL.blk, RelL.law, RFr, RFs] at hd
    obtain ⟨rfl, rfl, -⟩ := hd
    refine held ?_
    simp only [putAll, Act.put, List.setIfInBounds_toArray, List.set_cons_succ, List.set_cons_zero]
    have hrun := HLK2.out b mb W' (hA.ext hI.ext)
    go_wp2_with fail
    exact relyE_done _ rfl rfl (Ext.refl _) (hI.other (by decide))
   refine stepsF_cons ?_ ?_
   ·intro listed vs W' hl hI hd hs hn hu hz ho9
    refine hold ?_
    obtain ⟨x0, x1, x2, x3, x4, x5, x6, x7, x8, x9, x10, x11, x12, x13, x14, rfl⟩ := lenlit15 hl; clear hl
    refine held ?_
    simp only [putAll, Act.put, List.setIfInBounds_toArray, List.set_cons_succ, List.set_cons_zero]
    have hC9 := hC.ext hI.ext
    have d0 := hC9.c 0 _ rfl
    have d1 := hC9.c 1 _ rfl
    go_wp2_with fail
    exact relyE_done _ rfl rfl (Ext.refl _) (hI.other (by decide))
   refine stepsF_cons ?_ ?_
   ·intro listed vs W' hl hI hd hs hn hu hz ho9
    refine hold ?_
    obtain ⟨x0, x1, x2, x3, x4, x5, x6, x7, x8, x9, x10, x11, x12, x13, x14, rfl⟩ := lenlit15 hl; clear hl
    simp only [factsL, atL, refV, List.getElem?_cons_succ, List.getElem?_cons_zero, List.getD_cons_succ, List.getD_cons_zero, RelL.one, RelL.any, RelL.blk, RelL.law, RFr, RFs] at hd
    obtain ⟨rfl, -⟩ := hd
    refine held ?_
    simp only [putAll, Act.put, List.setIfInBounds_toArray, List.set_cons_succ, List.set_cons_zero]
    have HLS := Lib.hid (last_any (some ⟨xc, oc1, none⟩) rn cc cat chs W' (hrw.ext hI.ext) (by omega))
    unfold hdV at HLS
    rw [HLE.out] at HLS
    go_wp2_with (go_at_call 35; refine HLS.out.mono ?_; rintro e9 w9 ⟨rfl, hx9⟩)
    exact relyE_done _ rfl rfl hx9 ((hI.ext1 hx9).other (by decide))
   refine stepsF_cons ?_ ?_
   ·intro listed vs W' hl hI hd hs hn hu hz ho9
    refine hold ?_
    obtain ⟨x0, x1, x2, x3, x4, x5, x6, x7, x8, x9, x10, x11, x12, x13, x14, rfl⟩ := lenlit15 hl; clear hl
    refine held ?_
    simp only [putAll, Act.put, List.setIfInBounds_toArray, List.set_cons_succ, List.set_cons_zero]
    go_wp2_with fail
    exact relyE_done _ rfl rfl (Ext.refl _) (hI.other (by decide))
   refine stepsF_cons ?_ ?_
   ·intro listed vs W' hl hI hd hs hn hu hz ho9
    refine hold ?_
    obtain ⟨x0, x1, x2, x3, x4, x5, x6, x7, x8, x9, x10, x11, x12, x13, x14, rfl⟩ := lenlit15 hl; clear hl
    simp only [factsL, atL, refV, List.getElem?_cons_succ, List.getElem?_cons_zero, List.getD_cons_succ, List.getD_cons_zero, RelL.one, RelL.any, RelL.blk, RelL.law, RFr, RFs] at hd
    obtain ⟨rfl, rfl, rfl, -⟩ := hd
    refine held ?_
    simp only [putAll, Act.put, List.setIfInBounds_toArray, List.set_cons_succ, List.set_cons_zero]
    go_wp2_with (go_at_call 22; refine (HP2.out _ (hx.trans hI.ext)).mono ?_; rintro e9 w9 ⟨qa, qn, qc, rfl, hp1, hp2, hx9⟩)
    exact relyE_done _ rfl ⟨qa, qn, qc, rfl, hp1, fun b8 o8 q h0 => by have := hp2 b8 o8 q h0; have := hI.lt; omega⟩ hx9 ((hI.ext1 hx9).other (by decide))
   refine stepsF_cons ?_ ?_
   ·intro listed vs W' hl hI hd hs hn hu hz ho9
    refine hold ?_
    obtain ⟨x0, x1, x2, x3, x4, x5, x6, x7, x8, x9, x10, x11, x12, x13, x14, rfl⟩ := lenlit15 hl; clear hl
    simp only [factsL, atL, refV, List.getElem?_cons_succ, List.getElem?_cons_zero, List.getD_cons_succ, List.getD_cons_zero, RelL.one, RelL.any, RelL.blk, RelL.law, RFr, RFs] at hd
    obtain ⟨⟨qa, qn, qc, rfl, hp⟩, -⟩ := hd
    refine held ?_
    simp only [putAll, Act.put, List.setIfInBounds_toArray, List.set_cons_succ, List.set_cons_zero]
    unfold rcV
    go_wp2_with fail
    exact relyE_done _ rfl ⟨qa, qn, qc, rfl, hp⟩ (Ext.refl _) (hI.other (by decide))
   refine stepsF_cons ?_ ?_
   ·intro listed vs W' hl hI hd hs hn hu hz ho9
    refine hold ?_
    obtain ⟨x0, x1, x2, x3, x4, x5, x6, x7, x8, x9, x10, x11, x12, x13, x14, rfl⟩ := lenlit15 hl; clear hl
    simp only [factsL, atL, refV, List.getElem?_cons_succ, List.getElem?_cons_zero, List.getD_cons_succ, List.getD_cons_zero, RelL.one, RelL.any, RelL.blk, RelL.law, RFr, RFs] at hd
    obtain ⟨⟨qa, qn, qc, rfl, hp⟩, -⟩ := hd
    refine held ?_
    simp only [putAll, Act.put, List.setIfInBounds_toArray, List.set_cons_succ, List.set_cons_zero]
    unfold rcV
    go_wp2_with fail
    exact relyE_done _ rfl ⟨qa, qn, qc, rfl, hp⟩ (Ext.refl _) (hI.other (by decide))
   refine stepsF_cons ?_ ?_
   ·intro listed vs W' hl hI hd hs hn hu hz ho9
    refine hold ?_
    obtain ⟨x0, x1, x2, x3, x4, x5, x6, x7, x8, x9, x10, x11, x12, x13, x14, rfl⟩ := lenlit15 hl; clear hl
    simp only [factsL, atL, refV, List.getElem?_cons_succ, List.getElem?_cons_zero, List.getD_cons_succ, List.getD_cons_zero, RelL.one, RelL.any, RelL.blk, RelL.law, RFr, RFs] at hd
    obtain ⟨⟨qa, qn, qc, rfl, hp⟩, -⟩ := hd
    refine held ?_
    simp only [putAll, Act.put, List.setIfInBounds_toArray, List.set_cons_succ, List.set_cons_zero]
    unfold rcV
    go_wp2_with fail
    exact relyE_done _ rfl rfl (Ext.refl _) (hI.other (by decide))
   refine stepsF_cons ?_ ?_
   ·intro listed vs W' hl hI hd hs hn hu hz ho9
    refine hold ?_
    obtain ⟨x0, x1, x2, x3, x4, x5, x6, x7, x8, x9, x10, x11, x12, x13, x14, rfl⟩ := lenlit15 hl; clear hl
    refine held ?_
    simp only [putAll, Act.put, List.setIfInBounds_toArray, List.set_cons_succ, List.set_cons_zero]
    go_wp2_with fail
    exact relyE_done _ rfl rfl (Ext.refl _) (hI.other (by decide))
   refine stepsF_cons ?_ ?_
   ·intro listed vs W' hl hI hd hs hn hu hz ho9
    refine hold ?_
    obtain ⟨x0, x1, x2, x3, x4, x5, x6, x7, x8, x9, x10, x11, x12, x13, x14, rfl⟩ := lenlit15 hl; clear hl
    simp only [factsL, atL, refV, List.getElem?_cons_succ, List.getElem?_cons_zero, List.getD_cons_succ, List.getD_cons_zero, RelL.one, RelL.any, RelL.blk, RelL.law, RFr, RFs] at hd
    obtain ⟨⟨qa, qn, qc, rfl, hp⟩, rfl, -⟩ := hd
    refine held ?_
    simp only [putAll, Act.put, List.setIfInBounds_toArray, List.set_cons_succ, List.set_cons_zero]
    unfold rcV
    have hQ9 := hI.a0 hz
    have s12 := hQ9.c 12 _ rfl
    have s13 := hQ9.c 13 _ rfl
    have s14 := hQ9.c 14 _ rfl
    have s15 := hQ9.c 15 _ rfl
    have s16 := hQ9.c 16 _ rfl
    have s17 := hQ9.c 17 _ rfl
    have s18 := hQ9.c 18 _ rfl
    have s19 := hQ9.c 19 _ rfl
    have s20 := hQ9.c 20 _ rfl
    have s21 := hQ9.c 21 _ rfl
    have fz := hQ9.free
    go_wp2_with fail
    exact relyE_store undef rfl trivial (by simp [World.setCell]) ⟨(fun _ _ h => h), (fun _ _ h => h), (fun _ _ h => h), (fun _ _ h => h), (fun _ _ h => h), (fun _ _ h => h), (fun _ _ h => h), (fun _ _ h => h), (fun _ _ h => h), (fun _ _ ⟨pa9, pn9, pc9, q1, q2, q3⟩ => ⟨pa9, pn9, pc9, q1, q2.at12 (fun b off q h0 => Nat.ne_of_gt (q3 b off q h0)) _ _ _ _ _ _ _ _ _ _, q3⟩), (fun _ _ ⟨pa9, pn9, pc9, q1, q2, q3⟩ => ⟨pa9, pn9, pc9, q1, q2.at12 (fun b off q h0 => Nat.ne_of_gt (q3 b off q h0)) _ _ _ _ _ _ _ _ _ _, q3⟩), (fun _ _ ⟨pa9, pn9, pc9, q1, q2, q3⟩ => ⟨pa9, pn9, pc9, q1, q2.at12 (fun b off q h0 => Nat.ne_of_gt (q3 b off q h0)) _ _ _ _ _ _ _ _ _ _, q3⟩), (fun _ _ h => h), (fun _ _ h => h), (fun _ _ h => h), trivial⟩ ⟨hI.ext.at12 HB19.out _ _ _ _ _ _ _ _ _ _, (hQ9.set22at12 _ _ _ _ _ _ _ _ _ _).lt, ⟨hI.p.1.at12 (fun b off q h0 => Nat.ne_of_gt (hI.p.2 b off q h0)) _ _ _ _ _ _ _ _ _ _, hI.p.2⟩, fun h9 => by simp [updE] at h9, fun _ => ⟨qa, qn, qc, hQ9.set22at12 _ _ _ _ _ _ _ _ _ _, hp.1.at12 (fun b off q h0 => Nat.ne_of_gt (hp.2 b off q h0)) _ _ _ _ _ _ _ _ _ _, hp.2⟩⟩
   exact trivial
  ·intro listed vs W' hl hall hI hd hn
   obtain ⟨x0, x1, x2, x3, x4, x5, x6, x7, x8, x9, x10, x11, x12, x13, x14, rfl⟩ := lenlit15 hl; clear hl
   simp only [List.length_cons, List.length_nil, List.range, List.range.loop, Nat.zero_add, Nat.reduceAdd, factsL, atL, refV, List.getElem?_cons_succ, List.getElem?_cons_zero, List.getD_cons_succ, List.getD_cons_zero, RelL.one, RelL.any, RelL.blk, RelL.law, RFr, RFs] at hd
   obtain ⟨rfl, rfl, rfl, rfl, rfl, rfl, rfl, rfl, rfl, ⟨qa, qn, qc, rfl, hp⟩, ⟨qa, qn, qc, rfl, hp⟩, ⟨qa, qn, qc, rfl, hp⟩, rfl, rfl, -, -⟩ := hd
   simp only [putAll, Act.put, List.setIfInBounds_toArray, List.set_cons_succ, List.set_cons_zero]
   obtain ⟨qa, qn, qc, hQ2, hP2⟩ := hI.a1 (hall 14 (by decide))
   have hPp := hI.p
   have hx4 := hI.ext
   clear hI hn hall HP2 hQ1 HJ hP1 hx3 hlt3
   generalize W' = V4 at *
   have c0 := (HC.out.ext hx4).c 0 _ rfl
   have HLT19 : Hid (b19 < V4.heap.size) := Lib.hid hQ2.lt
   have HX4 := Lib.hid hx4
   have HQ2 := Lib.hid hQ2
   have HPG : Hid (PathG b19 V4.heap.size path V4 pa pn pc ∧ PathG b19 V4.heap.size path2 V4 qa qn qc) := Lib.hid ⟨⟨hPp, fun b off e h0 => hPp.1.ltB e h0⟩, ⟨hP2, fun b off e h0 => hP2.1.ltB e h0⟩⟩
   have hrb := HRB.out
   clear hPp hP2 hx hA hC hZ hQ2 hx4 hrw hq
   by_cases hcc : cc = 1
   ·obtain rfl := hcc
    obtain rfl : rn = 1 := by omega
    go_wp2_with fail
    clear c0
    go_loopw [98] (fun ix w2 => ix = .int .i64 0 ∧ Hid (w2 = V4)) (fun ix _ => 0)
    case atStart => exact ⟨rfl, Lib.hid rfl⟩
    case round =>
     obtain ⟨rfl, hw4⟩ := hrel
     have hw5 := hw4.out
     subst hw5
     clear hw4
     have hQ := HQ2.out
     have hxv := HX4.out
     obtain ⟨hP1, hP2⟩ := HPG.out
     obtain ⟨qs, hqs⟩ : ∃ qs : List HpR, qs = [] := ⟨_, rfl⟩
     have hOW : OwHp LG wr.heap.size wr none 0 0 qs := by rw [hqs]; exact OwHp.nil _ _ _
     have hQI : ∀ x, x < 0 → QId LG (nthR chs x) (nthR chs (x + 1)) (hopAt LG (nthR chs x) (nthR chs (x + 1))).toNat (nthR qs x) := fun x hx => absurd hx (Nat.not_lt_zero _)
     clear hqs
     go_upto_region 21 with fail
     obtain ⟨CL, hCL⟩ : ∃ CL : List Value, CL = [.int .i64 h.o, .int .i64 h.s, .int .u64 h.r, .int .i64 h.C, .int .i64 h.S, .int .i64 i, .int .u64 e.d, .int .i64 e.lo, .int .i64 e.hi, .slice pa pn pc, .slice none 0 0, .slice none 0 0, .int .i64 l.o, .int .i64 l.s, .int .u64 l.r, .int .i64 l.C, .int .i64 l.S, .int .i64 k, .int .u64 e2.d, .int .i64 e2.lo, .int .i64 e2.hi, .slice qa qn qc] := ⟨_, rfl⟩
     have HLN : Hid (CL.length = 22) := Lib.hid (by rw [hCL]; rfl)
     have HON : Hid (∀ v ∈ CL, v.oneCell' = true) := Lib.hid (by rw [hCL]; intro v hv; simp only [List.mem_cons, List.not_mem_nil, or_false] at hv; rcases hv with rfl | rfl | rfl | rfl | rfl | rfl | rfl | rfl | rfl | rfl | rfl | rfl | rfl | rfl | rfl | rfl | rfl | rfl | rfl | rfl | rfl | rfl <;> rfl)
     have HPV : Hid (Value.agg CL.toArray = prV ⟨h, i, e, pa, pn, pc⟩ ⟨l, k, e2, qa, qn, qc⟩ none 0 0) := Lib.hid (by rw [hCL]; rfl)
     have hQ5 : Bk wr b19 47 CL.toArray := by rw [hCL]; exact hQ
     clear hCL hQ
     have hZ9 := HZ.out.ext hxv
     go_wp2_with (refine loadBk rfl 47 _ rfl b19 rfl CL hQ5 _ Tryz.underlying47 rfl (by rw [HLN.out]; kernel_rfl) ?_; refine hold ?_)
     refine held ?_
     go_wp2_with (refine storeBk rfl 47 _ _ rfl b12 CL hZ9 (by rw [HLN.out]; rfl) rfl rfl (by rw [HLN.out]; kernel_rfl) HON.out ?_; refine hold ?_)
     have hZX := hZ9.allCells CL (by rw [HLN.out]; rfl)
     have hPp9 := Sl.otherCells (p := b12) (fun b8 o8 q h0 => by have := hP1.1.2 b8 o8 q h0; have := HLT12.out; omega) CL 0 hP1.1.1
     have hP29 := Sl.otherCells (p := b12) (fun b8 o8 q h0 => by have := hP2.1.2 b8 o8 q h0; have := HLT12.out; omega) CL 0 hP2.1.1
     have hx9 := Ext.cells (b := b12) (by rw [HB12.out]; exact Nat.le_refl _) CL 0 (HXV.out.trans hxv)
     have hOW9 := OwHp.keep hOW (W' := wr.setCells b12 0 CL) (fun g hg _ => heap_setCells_other b12 (fun e => by have h5 := HLT12.out; have h6 := HLT19.out; omega) CL 0 wr)
     generalize wr.setCells b12 0 CL = W9 at *
     refine held ?_
     go_wp2_with fail
     try simp only [Exit.inBlock, Exit.then]
     refine bodyPost_ret (res_find _ b12 CL (.bool true) (.int .i64 0) _ HLN.out (by rfl) (by rfl) (by rfl) hZX) rfl ?_
     refine ⟨CL, ⟨h, i, e, pa, pn, pc⟩, ⟨l, k, e2, qa, qn, qc⟩, none, 0, 0, qs, rfl, ?_, hx9⟩
     exact ⟨HPV.out, HLN.out, HON.out, ⟨HD1.out.1, rfl, HD1.out.2⟩, ⟨HD2.out.1, rfl, HD2.out.2⟩, (by show Sl .u64 W9 pa pn pc (inclT (vals ((LG (nthR chs 0).o).take (nthR chs 0).s.toNat)) i); rw [HH0.out, HPE1.out]; exact hPp9), (by show Sl .u64 W9 qa qn qc (inclT (vals ((LG (lastH chs).o).take (lastH chs).s.toNat)) k); rw [HL0.out, HPE2.out]; exact hP29), by show 0 + 1 = chs.length; rw [HRN.out], hOW9.1.rw (by have := HR4.out; omega) (fun _ _ => trivial), fun x hx => (hQI x hx).ok (hOW9.2 x hx).1⟩
   ·have hccd : decide (cc = 1) = false := decide_eq_false hcc
    go_wp2_with fail
    clear c0 hccd hcc
    go_loopw [98] (fun ix w2 => ∃ (m : Nat) (fa : Option Addr) (fc : Nat) (qs : List HpR), m + 1 ≤ rn ∧ ix = .int .i64 m ∧ Bk w2 b19 47 #[.int .i64 h.o, .int .i64 h.s, .int .u64 h.r, .int .i64 h.C, .int .i64 h.S, .int .i64 i, .int .u64 e.d, .int .i64 e.lo, .int .i64 e.hi, .slice pa pn pc, .slice fa m fc, .slice none 0 0, .int .i64 l.o, .int .i64 l.s, .int .u64 l.r, .int .i64 l.C, .int .i64 l.S, .int .i64 k, .int .u64 e2.d, .int .i64 e2.lo, .int .i64 e2.hi, .slice qa qn qc] ∧ OwHp LG V4.heap.size w2 fa m fc qs ∧ Hid ((PathG b19 V4.heap.size path w2 pa pn pc ∧ PathG b19 V4.heap.size path2 w2 qa qn qc) ∧ Ext V1 w2 ∧ V4.heap.size ≤ w2.heap.size ∧ ∀ x, x < m → QId LG (nthR chs x) (nthR chs (x + 1)) (hopAt LG (nthR chs x) (nthR chs (x + 1))).toNat (nthR qs x))) (fun ix _ => rn - (intOf ix).toNat)
    case atStart => exact ⟨0, none, 0, [], by omega, rfl, HQ2.out, OwHp.nil _ _ _, Lib.hid ⟨HPG.out, HX4.out, Nat.le_refl _, fun x hx => absurd hx (Nat.not_lt_zero _)⟩⟩
    case round =>
     obtain ⟨m, fa, fc, qs, hm, rfl, hQ, hOW, HV⟩ := hrel
     by_cases hlt : m + 1 < rn
     ·have hltn : m < rn - 1 := by omega
      have hlti : (m : Int) < ((rn - 1 : Nat) : Int) := by omega
      have hltr : m < rn := by omega
      have hqh := rangeAt_ext (HCX.out (m + 1) hlt) HV.out.2.1
      have hqg := rangeAt_ext (HCX.out m hltr) HV.out.2.1
      rw [sz_hd] at hqh hqg
      rw [show oc1 + (m + 1) * 5 = oc1 + 5 + m * 5 by omega] at hqh
      obtain ⟨jg, sg, hjg, hidg, hlgg, hsg, hsng, hrg, hokg⟩ := HHD.out m hltr
      obtain ⟨jh, sh, hjh, hidh, hlgh, hsh, hsnh, hrh, hokh⟩ := HHD.out (m + 1) hlt
      have hnx := HHO.out.nxt m (by show m + 1 < chs.length; rw [HRN.out]; exact hlt)
      simp only at hnx
      obtain ⟨q, hqe⟩ : ∃ q, nthR chs (m + 1) = q := ⟨_, rfl⟩
      obtain ⟨g, hge⟩ : ∃ q, nthR chs m = q := ⟨_, rfl⟩
      rw [hqe] at hqh hidh hlgh hsh hrh hokh hnx
      rw [hge] at hqg hidg hlgg hsg hrg hokg hnx
      have HQE := Lib.hid (And.intro hge hqe)
      obtain ⟨z, hz⟩ : ∃ z, (hopAt LG g q).toNat = z := ⟨_, rfl⟩
      have HZE := Lib.hid hz
      have hza : firstE ((es jh).take sh) (digH g) = (z : Int) := by
       have h1 := hnx.1
       rw [← hz]
       unfold hopAt at h1 ⊢
       rw [hlgh, hsh, Int.toNat_natCast] at h1 ⊢
       omega
      have hzl : z < sh := by
       have h1 := firstE_lt (by rw [hza]; exact Int.natCast_nonneg z)
       rw [hza, List.length_take] at h1
       omega
      have HLKg := Lib.hid (fun (W : World) (hx : Ext V1 W) => HLKX.out b mb W (HA.out.ext hx) jg hjg g.o hidg)
      have HLKh := Lib.hid (fun (W : World) (hx : Ext V1 W) => HLKX.out b mb W (HA.out.ext hx) jh hjh q.o hidh)
      rw [hidg] at HLKg
      rw [hidh] at HLKh
      have HWI : Hid (∀ (W : World) (hx : Ext V1 W), Calls Tryz.prog 36 #[.agg #[.int .i64 g.o, .slice (nthR os jg).a (nthR os jg).n (nthR os jg).c], .agg #[.int .i64 g.o, .int .i64 g.s, .int .u64 g.r, .int .i64 g.C, .int .i64 g.S], .agg #[.int .i64 g.o, .int .i64 g.s, .int .u64 g.r, .int .i64 g.C, .int .i64 g.S], .agg #[.int .i64 q.o, .slice (nthR os jh).a (nthR os jh).n (nthR os jh).c], .agg #[.int .i64 q.o, .int .i64 q.s, .int .u64 q.r, .int .i64 q.C, .int .i64 q.S]] W fun e w' => ∃ y, e = .returned (tupQ y) ∧ QOk LG W.heap.size g q z w' y ∧ (∀ p off, y.rc.pa = some ⟨p, off, none⟩ → 0 < y.rc.pn → W.heap.size ≤ p ∧ p < w'.heap.size) ∧ Ext W w') := Lib.hid (by
       intro W hx
       have hwx := HXV.out.trans hx
       have h1 := witness_yes (nthR os jg).id (nthR os jg).a (nthR os jg).n (nthR os jg).c (es jg) sg g.r g.C g.S (nthR os jh).id (nthR os jh).a (nthR os jh).n (nthR os jh).c (es jh) sh q.r q.C q.S z W
        ((HOF.out jg hjg).1.ext hwx) (HOF.out jg hjg).2 (by have := hokg.s; omega) hsng hrg (by rw [hidg, ← hsg]; exact hokg)
        ((HOF.out jh hjh).1.ext hwx) (HOF.out jh hjh).2 (by have := hokh.s; omega) hsnh hrh (by rw [hidh, ← hsh]; exact hokh) (by rw [hidg, hidh]; exact hnx.2) hzl (by rw [hidg, ← hsg]; exact hza) (HTB.out.ext hwx)
       rw [hidg, hidh, ← hsg, ← hsh] at h1
       refine h1.mono ?_
       rintro e w' ⟨y1, y2, y3, y4, y5, rfl, f1, f2, f3, f4⟩
       refine ⟨⟨g, y1, y2, ⟨q, z, nthR (es jh) z, y3, y4, y5⟩⟩, rfl, ⟨rfl, rfl, rfl, by show nthR (es jh) z = nthR (LG q.o) z; rw [hlgh], ?_, f1.max, f3⟩, fun p off h1 h2 => ⟨f3 p off h1 h2, f2.ltB h1 h2⟩, f4⟩
       show Sl .u64 w' y3 y4 y5 (inclT (vals ((LG q.o).take q.s.toNat)) z)
       rw [hlgh, hsh, Int.toNat_natCast]
       exact f2)
      clear hjg hidg hlgg hsg hsng hrg hokg hjh hidh hlgh hsh hsnh hrh hokh hnx hqe hge hz hza hzl
      generalize (nthR os jg).a = ga at *
      generalize (nthR os jg).n = gn at *
      generalize (nthR os jg).c = gc at *
      generalize (nthR os jh).a = ka at *
      generalize (nthR os jh).n = kn at *
      generalize (nthR os jh).c = kc at *
      obtain ⟨d0, d1, d2, d3, d4⟩ := cells_hd hqh
      clear hqh
      have O21 := Bk.new wr 34 #[.int .i64 q.o, .int .i64 q.s, .int .u64 q.r, .int .i64 q.C, .int .i64 q.S]
      have hx5 : Ext wr (wr.alloc (.cells #[.int .i64 q.o, .int .i64 q.s, .int .u64 q.r, .int .i64 q.C, .int .i64 q.S] 34)) := (Ext.refl wr).alloc _
      go_upto_region 17 with fail
      clear d0 d1 d2 d3 d4
      replace hqg := rangeAt_ext hqg hx5
      replace hQ := hQ.ext hx5
      replace hOW := hOW.ext hx5
      have hxr := hx5
      clear hx5
      generalize wr.alloc (.cells #[.int .i64 q.o, .int .i64 q.s, .int .u64 q.r, .int .i64 q.C, .int .i64 q.S] 34) = V5 at *
      obtain ⟨b21, hb21⟩ : ∃ b, wr.heap.size = b := ⟨_, rfl⟩
      rw [hb21] at O21 ⊢
      clear hb21
      obtain ⟨d0, d1, d2, d3, d4⟩ := cells_hd hqg
      have c0 := (HC.out.ext (HV.out.2.1.trans hxr)).c 0 _ rfl
      clear hqg
      have O22 := Bk.new V5 34 #[.int .i64 g.o, .int .i64 g.s, .int .u64 g.r, .int .i64 g.C, .int .i64 g.S]
      have hx5 : Ext V5 (V5.alloc (.cells #[.int .i64 g.o, .int .i64 g.s, .int .u64 g.r, .int .i64 g.C, .int .i64 g.S] 34)) := (Ext.refl V5).alloc _
      go_upto_region 18 with fail
      clear d0 d1 d2 d3 d4 c0
      replace O21 := O21.ext hx5
      replace hQ := hQ.ext hx5
      replace hOW := hOW.ext hx5
      replace hxr := hxr.trans hx5
      clear hx5
      generalize V5.alloc (.cells #[.int .i64 g.o, .int .i64 g.s, .int .u64 g.r, .int .i64 g.C, .int .i64 g.S] 34) = U at *
      obtain ⟨b22, hb22⟩ : ∃ b, V5.heap.size = b := ⟨_, rfl⟩
      rw [hb22] at O22 ⊢
      clear hb22
      have hxu : Ext V1 U := HV.out.2.1.trans hxr
      have hPGU : Hid (PathG b19 V4.heap.size path U pa pn pc ∧ PathG b19 V4.heap.size path2 U qa qn qc) := Lib.hid ⟨HV.out.1.1.ext hxr, HV.out.1.2.ext hxr⟩
      have hsu : V4.heap.size ≤ U.heap.size := Nat.le_trans HV.out.2.2.1 hxr.sz
      have HQIm := Lib.hid HV.out.2.2.2
      clear hxr HV
      have HII : ∀ vs, HI18 U (fun _ => false) vs { U with drawn := U.drawn + 1 } := fun vs => HI18.zero (Ext.refl U).drew
      have HFA : Hid (∀ b, fa = some ⟨b, 0, none⟩ → b < U.heap.size) := Lib.hid (fun b e => by
       rcases hOW.1.headAt with ⟨h2, _⟩ | ⟨g9, h2, h3, h4⟩
       ·rw [h2] at e; cases e
       ·rw [h2] at e; simp only [Option.some.injEq, Addr.mk.injEq, and_true] at e; omega)
      have HQL : Hid (qs.length = m) := Lib.hid hOW.1.1
      refine region_relyH (HI18 U) [some 109, some 110, some 111, some 112, some 113, some 114, some 115, some 116, some 117, some 118, some 119, some 120, some 121, some 122, some 123, some 124, some 125, some 126, some 108, some 127, some 128, some 23, none, some 24] [[], [0], [0, 1], [0, 1, 2], [], [4], [0, 1, 2, 3, 4, 5], [], [], [], [9], [9, 10], [9, 10, 11], [], [13], [9, 10, 11, 12, 13, 14], [], [0, 1, 2, 3, 4, 5, 6, 7, 8, 9, 10, 11, 12, 13, 14, 15, 16], [0, 1, 2, 3, 4, 5, 6, 7, 8, 9, 10, 11, 12, 13, 14, 15, 16, 17], [0, 1, 2, 3, 4, 5, 6, 7, 8, 9, 10, 11, 12, 13, 14, 15, 16, 17, 18], [0, 1, 2, 3, 4, 5, 6, 7, 8, 9, 10, 11, 12, 13, 14, 15, 16, 17, 18], [], [0, 1, 2, 3, 4, 5, 6, 7, 8, 9, 10, 11, 12, 13, 14, 15, 16, 17, 18, 19, 21], [0, 1, 2, 3, 4, 5, 6, 7, 8, 9, 10, 11, 12, 13, 14, 15, 16, 17, 18, 19, 20, 21, 22]] [[], [0], [1], [2], [], [4], [3, 5], [], [], [], [9], [10], [11], [], [13], [12, 14], [], [6, 7, 8, 15, 16], [17], [18], [18], [], [17, 18, 19, 21], [20]] [none, none, none, none, none, none, none, none, none, none, none, none, none, none, none, none, none, none, some 17, some 18, none, none, some 21, none] [false, false, false, false, false, false, false, false, false, false, false, false, false, false, false, false, false, false, false, false, false, false, false, false] [[], [], [], [], [], [], [], [], [], [], [], [], [], [], [], [], [], [], [], [], [], [], [17, 21], []] [22] [.one ((.pointer (some ⟨b, 0, none⟩))), .one ((.pointer (some ⟨b, 0, none⟩))), .one ((.pointer (some ⟨b, 0, none⟩))), .one ((.map (some mb))), .one ((.pointer (some ⟨b22, 0, none⟩))), .one ((.int .i64 g.o)), .one ((.agg #[.int .i64 g.o, .slice ga gn gc])), .one ((.agg #[.int .i64 g.o, .int .i64 g.s, .int .u64 g.r, .int .i64 g.C, .int .i64 g.S])), .one ((.agg #[.int .i64 g.o, .int .i64 g.s, .int .u64 g.r, .int .i64 g.C, .int .i64 g.S])), .one ((.pointer (some ⟨b, 0, none⟩))), .one ((.pointer (some ⟨b, 0, none⟩))), .one ((.pointer (some ⟨b, 0, none⟩))), .one ((.map (some mb))), .one ((.pointer (some ⟨b21, 0, none⟩))), .one ((.int .i64 q.o)), .one ((.agg #[.int .i64 q.o, .slice ka kn kc])), .one ((.agg #[.int .i64 q.o, .int .i64 q.s, .int .u64 q.r, .int .i64 q.C, .int .i64 q.S])), RWt LG U.heap.size g q z, RSame 17, RPart 18, .one ((.int .i64 0)), RTz U.heap.size, RHop LG U.heap.size g q z 21, .one ((.int .i64 0))] (by kernel_rfl) (by kernel_rfl) (by kernel_rfl) rfl (HII _) ?_ ?_
      ·refine stepsH_cons ?_ ?_
       ·intro listed vs W' hl hI hd hs hn hu hz ho9
        refine hold ?_
        obtain ⟨x0, x1, x2, x3, x4, x5, x6, x7, x8, x9, x10, x11, x12, x13, x14, x15, x16, x17, x18, x19, x20, x21, x22, x23, rfl⟩ := lenlit24q hl; clear hl
        refine held ?_
        simp only [putAll, Act.put, List.setIfInBounds_toArray, List.set_cons_succ, List.set_cons_zero]
        go_wp2_with fail
        exact relyH_done _ rfl rfl (Ext.refl _) (hI.other (by decide) (by decide) hI.e (Nat.le_refl _))
       refine stepsH_cons ?_ ?_
       ·intro listed vs W' hl hI hd hs hn hu hz ho9
        refine hold ?_
        obtain ⟨x0, x1, x2, x3, x4, x5, x6, x7, x8, x9, x10, x11, x12, x13, x14, x15, x16, x17, x18, x19, x20, x21, x22, x23, rfl⟩ := lenlit24q hl; clear hl
        simp only [factsL, atL, refV, List.getElem?_cons_succ, List.getElem?_cons_zero, List.getD_cons_succ, List.getD_cons_zero, RelL.one, RelL.any, RelL.blk, RelL.law, RWt, RSame, RPart, RTz, RHop] at hd
        obtain ⟨rfl, -⟩ := hd
        refine held ?_
        simp only [putAll, Act.put, List.setIfInBounds_toArray, List.set_cons_succ, List.set_cons_zero]
        go_wp2_with fail
        exact relyH_done _ rfl rfl (Ext.refl _) (hI.other (by decide) (by decide) hI.e (Nat.le_refl _))
       refine stepsH_cons ?_ ?_
       ·intro listed vs W' hl hI hd hs hn hu hz ho9
        refine hold ?_
        obtain ⟨x0, x1, x2, x3, x4, x5, x6, x7, x8, x9, x10, x11, x12, x13, x14, x15, x16, x17, x18, x19, x20, x21, x22, x23, rfl⟩ := lenlit24q hl; clear hl
        simp only [factsL, atL, refV, List.getElem?_cons_succ, List.getElem?_cons_zero, List.getD_cons_succ, List.getD_cons_zero, RelL.one, RelL.any, RelL.blk, RelL.law, RWt, RSame, RPart, RTz, RHop] at hd
        obtain ⟨rfl, -⟩ := hd
        refine held ?_
        simp only [putAll, Act.put, List.setIfInBounds_toArray, List.set_cons_succ, List.set_cons_zero]
        go_wp2_with fail
        exact relyH_done _ rfl rfl (Ext.refl _) (hI.other (by decide) (by decide) hI.e (Nat.le_refl _))
       refine stepsH_cons ?_ ?_
       ·intro listed vs W' hl hI hd hs hn hu hz ho9
        refine hold ?_
        obtain ⟨x0, x1, x2, x3, x4, x5, x6, x7, x8, x9, x10, x11, x12, x13, x14, x15, x16, x17, x18, x19, x20, x21, x22, x23, rfl⟩ := lenlit24q hl; clear hl
        simp only [factsL, atL, refV, List.getElem?_cons_succ, List.getElem?_cons_zero, List.getD_cons_succ, List.getD_cons_zero, RelL.one, RelL.any, RelL.blk, RelL.law, RWt, RSame, RPart, RTz, RHop] at hd
        obtain ⟨rfl, -⟩ := hd
        refine held ?_
        simp only [putAll, Act.put, List.setIfInBounds_toArray, List.set_cons_succ, List.set_cons_zero]
        have hA9 := HA.out.box.ext (hxu.trans hI.e)
        have d0 := hA9.c 0 _ rfl
        go_wp2_with fail
        exact relyH_done _ rfl rfl (Ext.refl _) (hI.other (by decide) (by decide) hI.e (Nat.le_refl _))
       refine stepsH_cons ?_ ?_
       ·intro listed vs W' hl hI hd hs hn hu hz ho9
        refine hold ?_
        obtain ⟨x0, x1, x2, x3, x4, x5, x6, x7, x8, x9, x10, x11, x12, x13, x14, x15, x16, x17, x18, x19, x20, x21, x22, x23, rfl⟩ := lenlit24q hl; clear hl
        refine held ?_
        simp only [putAll, Act.put, List.setIfInBounds_toArray, List.set_cons_succ, List.set_cons_zero]
        go_wp2_with fail
        exact relyH_done _ rfl rfl (Ext.refl _) (hI.other (by decide) (by decide) hI.e (Nat.le_refl _))
       refine stepsH_cons ?_ ?_
       ·intro listed vs W' hl hI hd hs hn hu hz ho9
        refine hold ?_
        obtain ⟨x0, x1, x2, x3, x4, x5, x6, x7, x8, x9, x10, x11, x12, x13, x14, x15, x16, x17, x18, x19, x20, x21, x22, x23, rfl⟩ := lenlit24q hl; clear hl
        simp only [factsL, atL, refV, List.getElem?_cons_succ, List.getElem?_cons_zero, List.getD_cons_succ, List.getD_cons_zero, RelL.one, RelL.any, RelL.blk, RelL.law, RWt, RSame, RPart, RTz, RHop] at hd
        obtain ⟨rfl, -⟩ := hd
        refine held ?_
        simp only [putAll, Act.put, List.setIfInBounds_toArray, List.set_cons_succ, List.set_cons_zero]
        have O9 := O22.ext hI.e
        have p0 := O9.c 0 _ rfl
        go_wp2_with fail
        exact relyH_done _ rfl rfl (Ext.refl _) (hI.other (by decide) (by decide) hI.e (Nat.le_refl _))
       refine stepsH_cons ?_ ?_
       ·intro listed vs W' hl hI hd hs hn hu hz ho9
        refine hold ?_
        obtain ⟨x0, x1, x2, x3, x4, x5, x6, x7, x8, x9, x10, x11, x12, x13, x14, x15, x16, x17, x18, x19, x20, x21, x22, x23, rfl⟩ := lenlit24q hl; clear hl
        simp only [factsL, atL, refV, List.getElem?_cons_succ, List.getElem?_cons_zero, List.getD_cons_succ, List.getD_cons_zero, RelL.one, RelL.any, RelL.blk, RelL.law, RWt, RSame, RPart, RTz, RHop] at hd
        obtain ⟨rfl, rfl, -⟩ := hd
        refine held ?_
        simp only [putAll, Act.put, List.setIfInBounds_toArray, List.set_cons_succ, List.set_cons_zero]
        have hrun := HLKg.out W' (hxu.trans hI.e)
        go_wp2_with fail
        exact relyH_done _ rfl rfl (Ext.refl _) (hI.other (by decide) (by decide) hI.e (Nat.le_refl _))
       refine stepsH_cons ?_ ?_
       ·intro listed vs W' hl hI hd hs hn hu hz ho9
        refine hold ?_
        obtain ⟨x0, x1, x2, x3, x4, x5, x6, x7, x8, x9, x10, x11, x12, x13, x14, x15, x16, x17, x18, x19, x20, x21, x22, x23, rfl⟩ := lenlit24q hl; clear hl
        refine held ?_
        simp only [putAll, Act.put, List.setIfInBounds_toArray, List.set_cons_succ, List.set_cons_zero]
        have O9 := O22.ext hI.e
        have p0 := O9.c 0 _ rfl
        have p1 := O9.c 1 _ rfl
        have p2 := O9.c 2 _ rfl
        have p3 := O9.c 3 _ rfl
        have p4 := O9.c 4 _ rfl
        go_wp2_with fail
        exact relyH_done _ rfl rfl (Ext.refl _) (hI.other (by decide) (by decide) hI.e (Nat.le_refl _))
       refine stepsH_cons ?_ ?_
       ·intro listed vs W' hl hI hd hs hn hu hz ho9
        refine hold ?_
        obtain ⟨x0, x1, x2, x3, x4, x5, x6, x7, x8, x9, x10, x11, x12, x13, x14, x15, x16, x17, x18, x19, x20, x21, x22, x23, rfl⟩ := lenlit24q hl; clear hl
        refine held ?_
        simp only [putAll, Act.put, List.setIfInBounds_toArray, List.set_cons_succ, List.set_cons_zero]
        have O9 := O22.ext hI.e
        have p0 := O9.c 0 _ rfl
        have p1 := O9.c 1 _ rfl
        have p2 := O9.c 2 _ rfl
        have p3 := O9.c 3 _ rfl
        have p4 := O9.c 4 _ rfl
        go_wp2_with fail
        exact relyH_done _ rfl rfl (Ext.refl _) (hI.other (by decide) (by decide) hI.e (Nat.le_refl _))
       refine stepsH_cons ?_ ?_
       ·intro listed vs W' hl hI hd hs hn hu hz ho9
        refine hold ?_
        obtain ⟨x0, x1, x2, x3, x4, x5, x6, x7, x8, x9, x10, x11, x12, x13, x14, x15, x16, x17, x18, x19, x20, x21, x22, x23, rfl⟩ := lenlit24q hl; clear hl
        refine held ?_
        simp only [putAll, Act.put, List.setIfInBounds_toArray, List.set_cons_succ, List.set_cons_zero]
        go_wp2_with fail
        exact relyH_done _ rfl rfl (Ext.refl _) (hI.other (by decide) (by decide) hI.e (Nat.le_refl _))
       refine stepsH_cons ?_ ?_
       ·intro listed vs W' hl hI hd hs hn hu hz ho9
        refine hold ?_
        obtain ⟨x0, x1, x2, x3, x4, x5, x6, x7, x8, x9, x10, x11, x12, x13, x14, x15, x16, x17, x18, x19, x20, x21, x22, x23, rfl⟩ := lenlit24q hl; clear hl
        simp only [factsL, atL, refV, List.getElem?_cons_succ, List.getElem?_cons_zero, List.getD_cons_succ, List.getD_cons_zero, RelL.one, RelL.any, RelL.blk, RelL.law, RWt, RSame, RPart, RTz, RHop] at hd
        obtain ⟨rfl, -⟩ := hd
        refine held ?_
        simp only [putAll, Act.put, List.setIfInBounds_toArray, List.set_cons_succ, List.set_cons_zero]
        go_wp2_with fail
        exact relyH_done _ rfl rfl (Ext.refl _) (hI.other (by decide) (by decide) hI.e (Nat.le_refl _))
       refine stepsH_cons ?_ ?_
       ·intro listed vs W' hl hI hd hs hn hu hz ho9
        refine hold ?_
        obtain ⟨x0, x1, x2, x3, x4, x5, x6, x7, x8, x9, x10, x11, x12, x13, x14, x15, x16, x17, x18, x19, x20, x21, x22, x23, rfl⟩ := lenlit24q hl; clear hl
        simp only [factsL, atL, refV, List.getElem?_cons_succ, List.getElem?_cons_zero, List.getD_cons_succ, List.getD_cons_zero, RelL.one, RelL.any, RelL.blk, RelL.law, RWt, RSame, RPart, RTz, RHop] at hd
        obtain ⟨rfl, -⟩ := hd
        refine held ?_
        simp only [putAll, Act.put, List.setIfInBounds_toArray, List.set_cons_succ, List.set_cons_zero]
        go_wp2_with fail
        exact relyH_done _ rfl rfl (Ext.refl _) (hI.other (by decide) (by decide) hI.e (Nat.le_refl _))
       refine stepsH_cons ?_ ?_
       ·intro listed vs W' hl hI hd hs hn hu hz ho9
        refine hold ?_
        obtain ⟨x0, x1, x2, x3, x4, x5, x6, x7, x8, x9, x10, x11, x12, x13, x14, x15, x16, x17, x18, x19, x20, x21, x22, x23, rfl⟩ := lenlit24q hl; clear hl
        simp only [factsL, atL, refV, List.getElem?_cons_succ, List.getElem?_cons_zero, List.getD_cons_succ, List.getD_cons_zero, RelL.one, RelL.any, RelL.blk, RelL.law, RWt, RSame, RPart, RTz, RHop] at hd
        obtain ⟨rfl, -⟩ := hd
        refine held ?_
        simp only [putAll, Act.put, List.setIfInBounds_toArray, List.set_cons_succ, List.set_cons_zero]
        have hA9 := HA.out.box.ext (hxu.trans hI.e)
        have d0 := hA9.c 0 _ rfl
        go_wp2_with fail
        exact relyH_done _ rfl rfl (Ext.refl _) (hI.other (by decide) (by decide) hI.e (Nat.le_refl _))
       refine stepsH_cons ?_ ?_
       ·intro listed vs W' hl hI hd hs hn hu hz ho9
        refine hold ?_
        obtain ⟨x0, x1, x2, x3, x4, x5, x6, x7, x8, x9, x10, x11, x12, x13, x14, x15, x16, x17, x18, x19, x20, x21, x22, x23, rfl⟩ := lenlit24q hl; clear hl
        refine held ?_
        simp only [putAll, Act.put, List.setIfInBounds_toArray, List.set_cons_succ, List.set_cons_zero]
        go_wp2_with fail
        exact relyH_done _ rfl rfl (Ext.refl _) (hI.other (by decide) (by decide) hI.e (Nat.le_refl _))
       refine stepsH_cons ?_ ?_
       ·intro listed vs W' hl hI hd hs hn hu hz ho9
        refine hold ?_
        obtain ⟨x0, x1, x2, x3, x4, x5, x6, x7, x8, x9, x10, x11, x12, x13, x14, x15, x16, x17, x18, x19, x20, x21, x22, x23, rfl⟩ := lenlit24q hl; clear hl
        simp only [factsL, atL, refV, List.getElem?_cons_succ, List.getElem?_cons_zero, List.getD_cons_succ, List.getD_cons_zero, RelL.one, RelL.any, RelL.blk, RelL.law, RWt, RSame, RPart, RTz, RHop] at hd
        obtain ⟨rfl, -⟩ := hd
        refine held ?_
        simp only [putAll, Act.put, List.setIfInBounds_toArray, List.set_cons_succ, List.set_cons_zero]
        have O9 := O21.ext hI.e
        have p0 := O9.c 0 _ rfl
        go_wp2_with fail
        exact relyH_done _ rfl rfl (Ext.refl _) (hI.other (by decide) (by decide) hI.e (Nat.le_refl _))
       refine stepsH_cons ?_ ?_
       ·intro listed vs W' hl hI hd hs hn hu hz ho9
        refine hold ?_
        obtain ⟨x0, x1, x2, x3, x4, x5, x6, x7, x8, x9, x10, x11, x12, x13, x14, x15, x16, x17, x18, x19, x20, x21, x22, x23, rfl⟩ := lenlit24q hl; clear hl
        simp only [factsL, atL, refV, List.getElem?_cons_succ, List.getElem?_cons_zero, List.getD_cons_succ, List.getD_cons_zero, RelL.one, RelL.any, RelL.blk, RelL.law, RWt, RSame, RPart, RTz, RHop] at hd
        obtain ⟨rfl, rfl, -⟩ := hd
        refine held ?_
        simp only [putAll, Act.put, List.setIfInBounds_toArray, List.set_cons_succ, List.set_cons_zero]
        have hrun := HLKh.out W' (hxu.trans hI.e)
        go_wp2_with fail
        exact relyH_done _ rfl rfl (Ext.refl _) (hI.other (by decide) (by decide) hI.e (Nat.le_refl _))
       refine stepsH_cons ?_ ?_
       ·intro listed vs W' hl hI hd hs hn hu hz ho9
        refine hold ?_
        obtain ⟨x0, x1, x2, x3, x4, x5, x6, x7, x8, x9, x10, x11, x12, x13, x14, x15, x16, x17, x18, x19, x20, x21, x22, x23, rfl⟩ := lenlit24q hl; clear hl
        refine held ?_
        simp only [putAll, Act.put, List.setIfInBounds_toArray, List.set_cons_succ, List.set_cons_zero]
        have O9 := O21.ext hI.e
        have p0 := O9.c 0 _ rfl
        have p1 := O9.c 1 _ rfl
        have p2 := O9.c 2 _ rfl
        have p3 := O9.c 3 _ rfl
        have p4 := O9.c 4 _ rfl
        go_wp2_with fail
        exact relyH_done _ rfl rfl (Ext.refl _) (hI.other (by decide) (by decide) hI.e (Nat.le_refl _))
       refine stepsH_cons ?_ ?_
       ·intro listed vs W' hl hI hd hs hn hu hz ho9
        refine hold ?_
        obtain ⟨x0, x1, x2, x3, x4, x5, x6, x7, x8, x9, x10, x11, x12, x13, x14, x15, x16, x17, x18, x19, x20, x21, x22, x23, rfl⟩ := lenlit24q hl; clear hl
        simp only [factsL, atL, refV, List.getElem?_cons_succ, List.getElem?_cons_zero, List.getD_cons_succ, List.getD_cons_zero, RelL.one, RelL.any, RelL.blk, RelL.law, RWt, RSame, RPart, RTz, RHop] at hd
        obtain ⟨rfl, rfl, rfl, rfl, rfl, -⟩ := hd
        refine held ?_
        simp only [putAll, Act.put, List.setIfInBounds_toArray, List.set_cons_succ, List.set_cons_zero]
        go_wp2_with (go_at_call 36; refine (HWI.out W' (hxu.trans hI.e)).mono ?_; rintro e9 w9 ⟨y17, rfl, hq9, hf9, hx9⟩)
        exact relyH_done (tupQ y17) rfl ⟨y17, rfl, hq9.lift (hI.e.sz)⟩ hx9 (hI.call (by simp) hx9 hf9)
       refine stepsH_cons ?_ ?_
       ·intro listed vs W' hl hI hd hs hn hu hz ho9
        refine hold ?_
        obtain ⟨x0, x1, x2, x3, x4, x5, x6, x7, x8, x9, x10, x11, x12, x13, x14, x15, x16, x17, x18, x19, x20, x21, x22, x23, rfl⟩ := lenlit24q hl; clear hl
        simp only [factsL, atL, refV, List.getElem?_cons_succ, List.getElem?_cons_zero, List.getD_cons_succ, List.getD_cons_zero, RelL.one, RelL.any, RelL.blk, RelL.law, RWt, RSame, RPart, RTz, RHop] at hd
        obtain ⟨⟨y17, rfl, hq17⟩, -⟩ := hd
        refine held ?_
        simp only [putAll, Act.put, List.setIfInBounds_toArray, List.set_cons_succ, List.set_cons_zero]
        go_wp2_with fail
        exact relyH_done (tupQ y17) rfl ⟨rfl, _, rfl⟩ (Ext.refl _) (hI.other (by decide) (by decide) hI.e (Nat.le_refl _))
       refine stepsH_cons ?_ ?_
       ·intro listed vs W' hl hI hd hs hn hu hz ho9
        refine hold ?_
        obtain ⟨x0, x1, x2, x3, x4, x5, x6, x7, x8, x9, x10, x11, x12, x13, x14, x15, x16, x17, x18, x19, x20, x21, x22, x23, rfl⟩ := lenlit24q hl; clear hl
        simp only [factsL, atL, refV, List.getElem?_cons_succ, List.getElem?_cons_zero, List.getD_cons_succ, List.getD_cons_zero, RelL.one, RelL.any, RelL.blk, RelL.law, RWt, RSame, RPart, RTz, RHop] at hd
        obtain ⟨⟨rfl, A18, e18⟩, -⟩ := hd
        refine held ?_
        simp only [putAll, Act.put, List.setIfInBounds_toArray, List.set_cons_succ, List.set_cons_zero]
        subst e18
        go_wp2_with fail
        exact relyH_done _ rfl ⟨_, _, rfl, rfl⟩ (Ext.refl _) (hI.other (by decide) (by decide) hI.e (Nat.le_refl _))
       refine stepsH_cons ?_ ?_
       ·intro listed vs W' hl hI hd hs hn hu hz ho9
        refine hold ?_
        obtain ⟨x0, x1, x2, x3, x4, x5, x6, x7, x8, x9, x10, x11, x12, x13, x14, x15, x16, x17, x18, x19, x20, x21, x22, x23, rfl⟩ := lenlit24q hl; clear hl
        simp only [factsL, atL, refV, List.getElem?_cons_succ, List.getElem?_cons_zero, List.getD_cons_succ, List.getD_cons_zero, RelL.one, RelL.any, RelL.blk, RelL.law, RWt, RSame, RPart, RTz, RHop] at hd
        obtain ⟨⟨rfl, A18, e18⟩, -⟩ := hd
        refine held ?_
        simp only [putAll, Act.put, List.setIfInBounds_toArray, List.set_cons_succ, List.set_cons_zero]
        subst e18
        go_wp2_with fail
        exact relyH_done _ rfl rfl (Ext.refl _) (hI.other (by decide) (by decide) hI.e (Nat.le_refl _))
       refine stepsH_cons ?_ ?_
       ·intro listed vs W' hl hI hd hs hn hu hz ho9
        refine hold ?_
        obtain ⟨x0, x1, x2, x3, x4, x5, x6, x7, x8, x9, x10, x11, x12, x13, x14, x15, x16, x17, x18, x19, x20, x21, x22, x23, rfl⟩ := lenlit24q hl; clear hl
        refine held ?_
        simp only [putAll, Act.put, List.setIfInBounds_toArray, List.set_cons_succ, List.set_cons_zero]
        go_wp2_with fail
        exact relyH_done (ptrV W'.heap.size) rfl ⟨_, _, rfl, hI.e.sz, Bk.new W' _ _, rfl⟩ ((Ext.refl _).alloc _) (hI.al (by simp) _)
       refine stepsH_cons ?_ ?_
       ·intro listed vs W' hl hI hd hs hn hu hz ho9
        refine hold ?_
        obtain ⟨x0, x1, x2, x3, x4, x5, x6, x7, x8, x9, x10, x11, x12, x13, x14, x15, x16, x17, x18, x19, x20, x21, x22, x23, rfl⟩ := lenlit24q hl; clear hl
        simp only [factsL, atL, refV, List.getElem?_cons_succ, List.getElem?_cons_zero, List.getD_cons_succ, List.getD_cons_zero, RelL.one, RelL.any, RelL.blk, RelL.law, RWt, RSame, RPart, RTz, RHop] at hd
        obtain ⟨⟨y17, rfl, hq17⟩, ⟨rfl, A18, e18⟩, ⟨A19, y19, e19, rfl⟩, ⟨b23, C23, rfl, hb23, hB23, hc23⟩, -⟩ := hd
        refine held ?_
        simp only [putAll, Act.put, List.setIfInBounds_toArray, List.set_cons_succ, List.set_cons_zero]
        have hA19 : A19 = (Cel.enc y17).toArray := by
         have h9 := e19
         unfold tupQ at h9
         simp at h9
         exact h9.1.symm
        subst hA19
        clear e18 e19
        unfold ptrV
        go_wp2_with (refine storeBk rfl 98 _ _ rfl b23 (Cel.enc y17) hB23 (by rw [hc23]; exact (Cel.len y17).symm) rfl rfl (by rw [Cel.len]; kernel_rfl) (fun v hv => Cel.one y17 v hv) ?_; refine hold ?_)
        refine held ?_
        go_wp2_with fail
        have hap := hI.d (hs 17 (by decide)) (hs 21 (by decide)) y17 b23 rfl rfl
        exact relyH_store undef rfl ⟨b23, y17, rfl, hB23.allCells (Cel.enc y17) (by rw [hc23]; exact (Cel.len y17).symm), hq17.keepC (fun p off h1 h2 => hap p off h1 h2)⟩ (Nat.le_of_eq (size_setCells _ _ _ _).symm) ⟨(fun _ _ _ h9 => h9), (fun _ _ _ h9 => h9), (fun _ _ _ h9 => h9), (fun _ _ _ h9 => h9), (fun _ _ _ h9 => h9), (fun _ _ _ h9 => h9), (fun _ _ _ h9 => h9), (fun _ _ _ h9 => h9), (fun _ _ _ h9 => h9), (fun _ _ _ h9 => h9), (fun _ _ _ h9 => h9), (fun _ _ _ h9 => h9), (fun _ _ _ h9 => h9), (fun _ _ _ h9 => h9), (fun _ _ _ h9 => h9), (fun _ _ _ h9 => h9), (fun _ _ _ h9 => h9), (fun h9 => by simp at h9), (fun _ _ _ h9 => h9), (fun _ _ _ h9 => h9), (fun _ _ _ h9 => h9), (fun h9 => by simp at h9), (fun _ _ h9 _ => absurd rfl h9), (fun _ hl9 _ _ => absurd (by decide) (hu 23 hl9)), trivial⟩ (hI.other (i := 22) (by decide) (by decide) (Ext.cells hb23 _ 0 hI.e) (Nat.le_of_eq (size_setCells _ _ _ _).symm))
       refine stepsH_cons ?_ ?_
       ·intro listed vs W' hl hI hd hs hn hu hz ho9
        refine hold ?_
        obtain ⟨x0, x1, x2, x3, x4, x5, x6, x7, x8, x9, x10, x11, x12, x13, x14, x15, x16, x17, x18, x19, x20, x21, x22, x23, rfl⟩ := lenlit24q hl; clear hl
        simp only [factsL, atL, refV, List.getElem?_cons_succ, List.getElem?_cons_zero, List.getD_cons_succ, List.getD_cons_zero, RelL.one, RelL.any, RelL.blk, RelL.law, RWt, RSame, RPart, RTz, RHop] at hd
        obtain ⟨rfl, -⟩ := hd
        refine held ?_
        simp only [putAll, Act.put, List.setIfInBounds_toArray, List.set_cons_succ, List.set_cons_zero]
        go_wp2_with fail
        exact relyH_done _ rfl rfl (Ext.refl _) (hI.other (by decide) (by decide) hI.e (Nat.le_refl _))
       exact trivial
      ·intro listed vs W' hl hall hI hd hn
       obtain ⟨x0, x1, x2, x3, x4, x5, x6, x7, x8, x9, x10, x11, x12, x13, x14, x15, x16, x17, x18, x19, x20, x21, x22, x23, rfl⟩ := lenlit24q hl; clear hl
       simp only [List.length_cons, List.length_nil, factsL, atL, refV, List.getElem?_cons_succ, List.getElem?_cons_zero, List.getD_cons_succ, List.getD_cons_zero, RelL.one, RelL.any, RelL.blk, RelL.law, RWt, RSame, RPart, RTz, RHop] at hd
       obtain ⟨⟨b23, y22, e22, hB22, hq22⟩, -⟩ := hd
       simp only [putAll, Act.put, List.setIfInBounds_toArray, List.set_cons_succ, List.set_cons_zero]
       have hxw := hI.e
       clear hI hn hall HII
       replace e22 : x21 = ptrV b23 := e22
       subst e22
       unfold ptrV
       replace hQ := hQ.ext hxw
       replace hOW := hOW.ext hxw
       have hap : Apt fa y22.rc.pa y22.rc.pn := fun b off e h0 e2 => by have := hq22.hi b off e h0; have := HFA.out b e2; omega
       have c10 := hQ.c 10 _ rfl
       have hqn := hQ.lt
       have hB23 : Bk W' b23 98 #[.int .i64 y22.h.o, .int .i64 y22.h.s, .int .u64 y22.h.r, .int .i64 y22.h.C, .int .i64 y22.h.S, .slice y22.ga 0 y22.gc, .int .i64 y22.rc.h.o, .int .i64 y22.rc.h.s, .int .u64 y22.rc.h.r, .int .i64 y22.rc.h.C, .int .i64 y22.rc.h.S, .int .i64 y22.rc.i, .int .u64 y22.rc.e.d, .int .i64 y22.rc.e.lo, .int .i64 y22.rc.e.hi, .slice y22.rc.pa y22.rc.pn y22.rc.pc] := hB22
       clear hB22
       go_wp2_with (refine loadBk rfl 98 _ rfl b23 rfl [.int .i64 y22.h.o, .int .i64 y22.h.s, .int .u64 y22.h.r, .int .i64 y22.h.C, .int .i64 y22.h.S, .slice y22.ga 0 y22.gc, .int .i64 y22.rc.h.o, .int .i64 y22.rc.h.s, .int .u64 y22.rc.h.r, .int .i64 y22.rc.h.C, .int .i64 y22.rc.h.S, .int .i64 y22.rc.i, .int .u64 y22.rc.e.d, .int .i64 y22.rc.e.lo, .int .i64 y22.rc.e.hi, .slice y22.rc.pa y22.rc.pn y22.rc.pc] hB23 _ Tryz.underlying98 rfl (by kernel_rfl) ?_; refine hold ?_)
       refine held ?_
       have hxa : Ext W' (W'.alloc (.cells #[.int .i64 y22.h.o, .int .i64 y22.h.s, .int .u64 y22.h.r, .int .i64 y22.h.C, .int .i64 y22.h.S, .slice y22.ga 0 y22.gc, .int .i64 y22.rc.h.o, .int .i64 y22.rc.h.s, .int .u64 y22.rc.h.r, .int .i64 y22.rc.h.C, .int .i64 y22.rc.h.S, .int .i64 y22.rc.i, .int .u64 y22.rc.e.d, .int .i64 y22.rc.e.lo, .int .i64 y22.rc.e.hi, .slice y22.rc.pa y22.rc.pn y22.rc.pc] 98)) := (Ext.refl W').alloc _
       have hNB : (W'.alloc (.cells #[.int .i64 y22.h.o, .int .i64 y22.h.s, .int .u64 y22.h.r, .int .i64 y22.h.C, .int .i64 y22.h.S, .slice y22.ga 0 y22.gc, .int .i64 y22.rc.h.o, .int .i64 y22.rc.h.s, .int .u64 y22.rc.h.r, .int .i64 y22.rc.h.C, .int .i64 y22.rc.h.S, .int .i64 y22.rc.i, .int .u64 y22.rc.e.d, .int .i64 y22.rc.e.lo, .int .i64 y22.rc.e.hi, .slice y22.rc.pa y22.rc.pn y22.rc.pc] 98)).rangeAt W'.heap.size 0 (Cel.enc y22) := (Bk.new W' 98 #[.int .i64 y22.h.o, .int .i64 y22.h.s, .int .u64 y22.h.r, .int .i64 y22.h.C, .int .i64 y22.h.S, .slice y22.ga 0 y22.gc, .int .i64 y22.rc.h.o, .int .i64 y22.rc.h.s, .int .u64 y22.rc.h.r, .int .i64 y22.rc.h.C, .int .i64 y22.rc.h.S, .int .i64 y22.rc.i, .int .u64 y22.rc.e.d, .int .i64 y22.rc.e.lo, .int .i64 y22.rc.e.hi, .slice y22.rc.pa y22.rc.pn y22.rc.pc]).row (cs := [.int .i64 y22.h.o, .int .i64 y22.h.s, .int .u64 y22.h.r, .int .i64 y22.h.C, .int .i64 y22.h.S, .slice y22.ga 0 y22.gc, .int .i64 y22.rc.h.o, .int .i64 y22.rc.h.s, .int .u64 y22.rc.h.r, .int .i64 y22.rc.h.C, .int .i64 y22.rc.h.S, .int .i64 y22.rc.i, .int .u64 y22.rc.e.d, .int .i64 y22.rc.e.lo, .int .i64 y22.rc.e.hi, .slice y22.rc.pa y22.rc.pn y22.rc.pc])
       have hOWa := hOW.ext hxa
       have hqo : HpO LG fa (W'.alloc (.cells #[.int .i64 y22.h.o, .int .i64 y22.h.s, .int .u64 y22.h.r, .int .i64 y22.h.C, .int .i64 y22.h.S, .slice y22.ga 0 y22.gc, .int .i64 y22.rc.h.o, .int .i64 y22.rc.h.s, .int .u64 y22.rc.h.r, .int .i64 y22.rc.h.C, .int .i64 y22.rc.h.S, .int .i64 y22.rc.i, .int .u64 y22.rc.e.d, .int .i64 y22.rc.e.lo, .int .i64 y22.rc.e.hi, .slice y22.rc.pa y22.rc.pn y22.rc.pc] 98)) y22 := ⟨hq22.pth.ext hxa, hq22.grow, hap⟩
       have hqi : HiQ V4.heap.size y22 := fun b off e h0 => Nat.le_trans hsu (hq22.hi b off e h0)
       have hbs : V4.heap.size ≤ (W'.alloc (.cells #[.int .i64 y22.h.o, .int .i64 y22.h.s, .int .u64 y22.h.r, .int .i64 y22.h.C, .int .i64 y22.h.S, .slice y22.ga 0 y22.gc, .int .i64 y22.rc.h.o, .int .i64 y22.rc.h.s, .int .u64 y22.rc.h.r, .int .i64 y22.rc.h.C, .int .i64 y22.rc.h.S, .int .i64 y22.rc.i, .int .u64 y22.rc.e.d, .int .i64 y22.rc.e.lo, .int .i64 y22.rc.e.hi, .slice y22.rc.pa y22.rc.pn y22.rc.pc] 98)).heap.size := Nat.le_trans hsu (Nat.le_trans hxw.sz hxa.sz)
       go_wp2_with (at_builtin; refine appHp el_hp rfl _ _ rfl _ V4.heap.size _ _ _ _ rfl hOWa W'.heap.size 1 y22 rfl hNB hqo hqi hbs (by have := HR4.out; unfold maxLen; omega) (by have := HR4.out; omega) ?_; intro g9 c9 w9 ho9 hB9 hG9; refine hold ?_)
       have hQ9 : Bk w9 b19 47 #[.int .i64 h.o, .int .i64 h.s, .int .u64 h.r, .int .i64 h.C, .int .i64 h.S, .int .i64 i, .int .u64 e.d, .int .i64 e.lo, .int .i64 e.hi, .slice pa pn pc, .slice fa m fc, .slice none 0 0, .int .i64 l.o, .int .i64 l.s, .int .u64 l.r, .int .i64 l.C, .int .i64 l.S, .int .i64 k, .int .u64 e2.d, .int .i64 e2.lo, .int .i64 e2.hi, .slice qa qn qc] := (hB9.block b19 HLT19.out).trans (hQ.ext hxa)
       have hxz := hxw.trans hxa
       have hs9 := Nat.le_trans hbs hB9.size
       have hP1 := hPGU.out.1.ext hxz
       have hP2 := hPGU.out.2.ext hxz
       have hv14 := HX4.out.sz
       have hx9 : Ext V1 w9 := Below.trans (hxu.trans hxz) (hB9.mono hv14)
       have hkp : ∀ (v : Value) (g : Nat), g ≠ b19 → g < V4.heap.size → (w9.setCell ⟨b19, 10, none⟩ v).heap[g]? = (W'.alloc (.cells #[.int .i64 y22.h.o, .int .i64 y22.h.s, .int .u64 y22.h.r, .int .i64 y22.h.C, .int .i64 y22.h.S, .slice y22.ga 0 y22.gc, .int .i64 y22.rc.h.o, .int .i64 y22.rc.h.s, .int .u64 y22.rc.h.r, .int .i64 y22.rc.h.C, .int .i64 y22.rc.h.S, .int .i64 y22.rc.i, .int .u64 y22.rc.e.d, .int .i64 y22.rc.e.lo, .int .i64 y22.rc.e.hi, .slice y22.rc.pa y22.rc.pn y22.rc.pc] 98)).heap[g]? := fun v g h1 h2 => (heap_setCell_other w9 ⟨b19, 10, none⟩ g v h1).trans (hB9.block g h2)
       have HPX := Lib.hid (fun v => And.intro (hP1.keep (hkp v)) (hP2.keep (hkp v)))
       clear hP1 hP2 hkp hQ hOW hOWa hqo hqi hbs hNB hap c10 hB23 hxa hxz hG9 hB9 hxw hPGU hqn
       have c10 := hQ9.c 10 _ rfl
       have cfz := hQ9.free
       refine held ?_
       go_wp2_with fail
       refine ⟨⟨m + 1, some ⟨g9, 0, none⟩, c9, qs ++ [y22], by omega, by go_num, hQ9.set 10 (.slice (some ⟨g9, 0, none⟩) (m + 1) c9), ho9.setLow HLT19.out 10 _, Lib.hid ⟨HPX.out _, hx9.setCell (p := ⟨b19, 10, none⟩) HB19.out _, by simp [World.setCell]; exact hs9, fun x hx => ?_⟩⟩, by simp only [intOf]; omega⟩
       rcases Nat.lt_or_ge x m with h9 | h9
       ·rw [nthR_app_left (by rw [HQL.out]; exact h9)]; exact HQIm.out x h9
       ·obtain rfl : x = m := by omega
        rw [nthR_app_right (by rw [HQL.out]; exact Nat.le_refl _), HQL.out, Nat.sub_self, HQE.out.1, HQE.out.2, HZE.out]
        exact hq22.id
     ·have hme : m + 1 = rn := by omega
      have hlti : ¬ ((m : Int) < ((rn - 1 : Nat) : Int)) := by omega
      have hltn : ¬ (m < rn - 1) := by omega
      have hxv := HV.out.2.1
      obtain ⟨hP1, hP2⟩ := HV.out.1
      have hQI := HV.out.2.2.2
      clear HV
      go_upto_region 21 with fail
      obtain ⟨CL, hCL⟩ : ∃ CL : List Value, CL = [.int .i64 h.o, .int .i64 h.s, .int .u64 h.r, .int .i64 h.C, .int .i64 h.S, .int .i64 i, .int .u64 e.d, .int .i64 e.lo, .int .i64 e.hi, .slice pa pn pc, .slice fa m fc, .slice none 0 0, .int .i64 l.o, .int .i64 l.s, .int .u64 l.r, .int .i64 l.C, .int .i64 l.S, .int .i64 k, .int .u64 e2.d, .int .i64 e2.lo, .int .i64 e2.hi, .slice qa qn qc] := ⟨_, rfl⟩
      have HLN : Hid (CL.length = 22) := Lib.hid (by rw [hCL]; rfl)
      have HON : Hid (∀ v ∈ CL, v.oneCell' = true) := Lib.hid (by rw [hCL]; intro v hv; simp only [List.mem_cons, List.not_mem_nil, or_false] at hv; rcases hv with rfl | rfl | rfl | rfl | rfl | rfl | rfl | rfl | rfl | rfl | rfl | rfl | rfl | rfl | rfl | rfl | rfl | rfl | rfl | rfl | rfl | rfl <;> rfl)
      have HPV : Hid (Value.agg CL.toArray = prV ⟨h, i, e, pa, pn, pc⟩ ⟨l, k, e2, qa, qn, qc⟩ fa m fc) := Lib.hid (by rw [hCL]; rfl)
      have hQ5 : Bk wr b19 47 CL.toArray := by rw [hCL]; exact hQ
      clear hCL hQ
      have hZ9 := HZ.out.ext hxv
      go_wp2_with (refine loadBk rfl 47 _ rfl b19 rfl CL hQ5 _ Tryz.underlying47 rfl (by rw [HLN.out]; kernel_rfl) ?_; refine hold ?_)
      refine held ?_
      go_wp2_with (refine storeBk rfl 47 _ _ rfl b12 CL hZ9 (by rw [HLN.out]; rfl) rfl rfl (by rw [HLN.out]; kernel_rfl) HON.out ?_; refine hold ?_)
      have hZX := hZ9.allCells CL (by rw [HLN.out]; rfl)
      have hPp9 := Sl.otherCells (p := b12) (fun b8 o8 q h0 => by have := hP1.1.2 b8 o8 q h0; have := HLT12.out; omega) CL 0 hP1.1.1
      have hP29 := Sl.otherCells (p := b12) (fun b8 o8 q h0 => by have := hP2.1.2 b8 o8 q h0; have := HLT12.out; omega) CL 0 hP2.1.1
      have hx9 := Ext.cells (b := b12) (by rw [HB12.out]; exact Nat.le_refl _) CL 0 (HXV.out.trans hxv)
      have hOW9 := OwHp.keep hOW (W' := wr.setCells b12 0 CL) (fun g hg _ => heap_setCells_other b12 (fun e => by have h5 := HLT12.out; have h6 := HLT19.out; omega) CL 0 wr)
      generalize wr.setCells b12 0 CL = W9 at *
      refine held ?_
      go_wp2_with fail
      try simp only [Exit.inBlock, Exit.then]
      refine bodyPost_ret (res_find _ b12 CL (.bool true) (.int .i64 0) _ HLN.out (by rfl) (by rfl) (by rfl) hZX) rfl ?_
      refine ⟨CL, ⟨h, i, e, pa, pn, pc⟩, ⟨l, k, e2, qa, qn, qc⟩, fa, m, fc, qs, rfl, ?_, hx9⟩
      exact ⟨HPV.out, HLN.out, HON.out, ⟨HD1.out.1, rfl, HD1.out.2⟩, ⟨HD2.out.1, rfl, HD2.out.2⟩, (by show Sl .u64 W9 pa pn pc (inclT (vals ((LG (nthR chs 0).o).take (nthR chs 0).s.toNat)) i); rw [HH0.out, HPE1.out]; exact hPp9), (by show Sl .u64 W9 qa qn qc (inclT (vals ((LG (lastH chs).o).take (lastH chs).s.toNat)) k); rw [HL0.out, HPE2.out]; exact hP29), by show m + 1 = chs.length; rw [HRN.out]; exact hme, hOW9.1.rw (by have := HR4.out; omega) (fun _ _ => trivial), fun x hx => (hQI x hx).ok (hOW9.2 x hx).1⟩
end Go.Proofs.YtacicanjmleikaaGreatDoor
