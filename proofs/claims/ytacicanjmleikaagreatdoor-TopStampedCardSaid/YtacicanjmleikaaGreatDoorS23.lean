
import Derived.Test.YtacicanjmleikaaGreatDoorS22
import Derived.Laws.StructEq
import Derived.Laws.Tables
import Derived.Laws.Cover2
/- A part of the proof. -/
namespace Go.Proofs.YtacicanjmleikaaGreatDoor
open Go.RowKit Go.Sort Go.Shelf Go.Maps
set_option linter.unusedSimpArgs false
set_option linter.unusedVariables false
set_option maxRecDepth 100000
structure QOk (lg : Int → List En) (B : Nat) (g h : Hd) (z : Nat) (W : World) (q : HpR) : Prop where
 g_ : q.h = g
 h_ : q.rc.h = h
 z_ : q.rc.i = z
 e_ : q.rc.e = nthR (lg h.o) z
 pth : Sl .u64 W q.rc.pa q.rc.pn q.rc.pc (pthQ lg q)
 grow : q.gc ≤ maxLen
 hi : HiQ B q
theorem QOk.ext {lg : Int → List En} {B : Nat} {g h : Hd} {z : Nat} {W W' : World} {q : HpR} (H : QOk lg B g h z W q) (hx : Ext W W') : QOk lg B g h z W' q := ⟨H.g_, H.h_, H.z_, H.e_, H.pth.ext hx, H.grow, H.hi⟩
def tupQ (q : HpR) : Value := .tuple #[.agg (Cel.enc q).toArray, .int .i64 0]
def ptrV (b : Nat) : Value := .pointer (some ⟨b, 0, none⟩)
theorem tupQ_inj {q q' : HpR} (h : tupQ q = tupQ q') : q.rc.pa = q'.rc.pa ∧ q.rc.pn = q'.rc.pn := by
 have h1 : (Cel.enc q) = (Cel.enc q') := by
  unfold tupQ at h
  simpa using h
 have h2 : ∀ l : List Value, l = Cel.enc q → l.getD 15 undef = .slice q.rc.pa q.rc.pn q.rc.pc := fun l e => by rw [e]; rfl
 have h3 := (h2 _ h1.symm).symm.trans (show (Cel.enc q').getD 15 undef = .slice q'.rc.pa q'.rc.pn q'.rc.pc from rfl)
 simp only [Value.slice.injEq] at h3
 exact ⟨h3.1, h3.2.1⟩
def RWt (lg : Int → List En) (B : Nat) (g h : Hd) (z : Nat) : RelL Ext := ⟨none, fun _ v W => ∃ q, v = tupQ q ∧ QOk lg B g h z W q, fun _ _ _ _ ⟨q, h1, h2⟩ hE => ⟨q, h1, h2.ext hE⟩⟩
def RSame (j : Nat) : RelL Ext := ⟨some j, fun u v _ => v = u ∧ ∃ A, u = .tuple #[.agg A, .int .i64 0], fun _ _ _ _ h _ => h⟩
def RPart (j : Nat) : RelL Ext := ⟨some j, fun u v _ => ∃ A y, u = .tuple #[.agg A, y] ∧ v = .agg A, fun _ _ _ _ h _ => h⟩
def RTz (B : Nat) : RelL Ext := ⟨none, fun _ v W => ∃ b C, v = ptrV b ∧ B ≤ b ∧ Bk W b 98 C ∧ C.size = 16, fun _ _ _ _ ⟨b, C, h1, h2, h3, h4⟩ hE => ⟨b, C, h1, h2, h3.ext hE, h4⟩⟩
def RHop (lg : Int → List En) (B : Nat) (g h : Hd) (z : Nat) (j : Nat) : RelL Ext := ⟨some j, fun u _ W => ∃ b q, u = ptrV b ∧ Bk W b 98 (Cel.enc q).toArray ∧ QOk lg B g h z W q, fun _ _ _ _ ⟨b, q, h1, h2, h3⟩ hE => ⟨b, q, h1, h2.ext hE, h3.ext hE⟩⟩
structure HI18 (V : World) (listed : Nat → Bool) (vs : List Value) (W : World) : Prop where
 e : Ext V W
 b21 : listed 21 = true → ∃ b, vs.getD 21 undef = ptrV b ∧ b < W.heap.size
 p17 : listed 17 = true → ∀ q, vs.getD 17 undef = tupQ q → ∀ p off, q.rc.pa = some ⟨p, off, none⟩ → 0 < q.rc.pn → p < W.heap.size
 d : listed 17 = true → listed 21 = true → ∀ q b, vs.getD 17 undef = tupQ q → vs.getD 21 undef = ptrV b → ∀ p off, q.rc.pa = some ⟨p, off, none⟩ → 0 < q.rc.pn → p ≠ b
section
variable {V : World} {listed : Nat → Bool} {vs : List Value} {W W' : World}
theorem getD_set_ne {l : List Value} {i j : Nat} {v : Value} (h : i ≠ j) : (l.set i v).getD j undef = l.getD j undef := by simp [List.getD_eq_getElem?_getD, List.getElem?_set_ne h]
theorem getD_set_eq {l : List Value} {i : Nat} {v : Value} (h : i < l.length) : (l.set i v).getD i undef = v := by simp [List.getD_eq_getElem?_getD, h]
theorem HI18.zero (h : Ext V W) : HI18 V (fun _ => false) vs W := ⟨h, (fun h9 => by cases h9), (fun h9 => by cases h9), (fun h9 => by cases h9)⟩
theorem HI18.other (h : HI18 V listed vs W) {i : Nat} {v : Value} (h17 : i ≠ 17) (h21 : i ≠ 21) (hx : Ext V W') (hsz : W.heap.size ≤ W'.heap.size) : HI18 V (updE listed i) (vs.set i v) W' := by
 have e17 : updE listed i 17 = listed 17 := by simp [updE, h17.symm]
 have e21 : updE listed i 21 = listed 21 := by simp [updE, h21.symm]
 refine ⟨hx, ?_, ?_, ?_⟩
 ·rw [e21, getD_set_ne h21]
  intro h9
  obtain ⟨b, h1, h2⟩ := h.b21 h9
  exact ⟨b, h1, Nat.lt_of_lt_of_le h2 hsz⟩
 ·rw [e17, getD_set_ne h17]
  exact fun h9 q hq p off h1 h2 => Nat.lt_of_lt_of_le (h.p17 h9 q hq p off h1 h2) hsz
 ·rw [e17, e21, getD_set_ne h17, getD_set_ne h21]
  exact h.d
theorem HI18.call (h : HI18 V listed vs W) {q : HpR} (hl : 17 < vs.length) (hx : Ext W W') (hf : ∀ p off, q.rc.pa = some ⟨p, off, none⟩ → 0 < q.rc.pn → W.heap.size ≤ p ∧ p < W'.heap.size) : HI18 V (updE listed 17) (vs.set 17 (tupQ q)) W' := by
 have e21 : updE listed 17 21 = listed 21 := by simp [updE]
 refine ⟨h.e.trans hx, ?_, ?_, ?_⟩
 ·rw [e21, getD_set_ne (by decide)]
  intro h9
  obtain ⟨b, h1, h2⟩ := h.b21 h9
  exact ⟨b, h1, Nat.lt_of_lt_of_le h2 hx.sz⟩
 ·rw [getD_set_eq hl]
  intro _ q' hq p off h1 h2
  obtain ⟨k1, k2⟩ := tupQ_inj hq
  exact (hf p off (k1.trans h1) (by omega)).2
 ·rw [e21, getD_set_eq hl, getD_set_ne (by decide)]
  intro _ h9 q' b hq hb p off h1 h2 e
  obtain ⟨k1, k2⟩ := tupQ_inj hq
  have h3 := (hf p off (k1.trans h1) (by omega)).1
  obtain ⟨b', h4, h5⟩ := h.b21 h9
  rw [h4] at hb
  simp only [ptrV, Value.pointer.injEq, Option.some.injEq, Addr.mk.injEq, and_true] at hb
  omega
theorem HI18.al (h : HI18 V listed vs W) (hl : 21 < vs.length) (ob : Obj) : HI18 V (updE listed 21) (vs.set 21 (ptrV W.heap.size)) (W.alloc ob) := by
 have e17 : updE listed 21 17 = listed 17 := by simp [updE]
 have hsz : (W.alloc ob).heap.size = W.heap.size + 1 := Array.size_push _
 refine ⟨h.e.alloc _, ?_, ?_, ?_⟩
 ·rw [getD_set_eq hl]
  exact fun _ => ⟨_, rfl, by omega⟩
 ·rw [e17, getD_set_ne (by decide)]
  exact fun h9 q hq p off h1 h2 => by have := h.p17 h9 q hq p off h1 h2; omega
 ·rw [e17, getD_set_eq hl, getD_set_ne (by decide)]
  intro h9 _ q b hq hb p off h1 h2 e
  have h3 := h.p17 h9 q hq p off h1 h2
  simp only [ptrV, Value.pointer.injEq, Option.some.injEq, Addr.mk.injEq, and_true] at hb
  omega
end
structure PrS (lg : Int → List En) (c : Ch) (i k : Nat) (W : World) (CL : List Value) (r1 r2 : RcR) (fa : Option Addr) (fn fc : Nat) (qs : List HpR) : Prop where
 is_ : Value.agg CL.toArray = prV r1 r2 fa fn fc
 len : CL.length = 22
 one : ∀ v ∈ CL, v.oneCell' = true
 h1 : r1.h = nthR c.hs 0 ∧ r1.i = i ∧ r1.e = nthR (lg (nthR c.hs 0).o) i
 h2 : r2.h = lastH c.hs ∧ r2.i = k ∧ r2.e = nthR (lg (lastH c.hs).o) k
 p1 : Sl .u64 W r1.pa r1.pn r1.pc (inclT (vals ((lg (nthR c.hs 0).o).take (nthR c.hs 0).s.toNat)) i)
 p2 : Sl .u64 W r2.pa r2.pn r2.pc (inclT (vals ((lg (lastH c.hs).o).take (lastH c.hs).s.toNat)) k)
 num : fn + 1 = c.hs.length
 row : Rw W fa fn fc qs
 hop : ∀ m, m < fn → QOk lg 0 (nthR c.hs m) (nthR c.hs (m + 1)) (hopAt lg (nthR c.hs m) (nthR c.hs (m + 1))).toNat W (nthR qs m)
open Go.RowKit Go.Sort Go.Shelf Go.Maps
structure LogOk (lg : Int → List En) (ps : List Int) (h : Hd) : Prop where
 sg : Sgn ps h
 len : h.s.toNat ≤ (lg h.o).length
 max : (lg h.o).length ≤ 4096
 root : rootT (vals ((lg h.o).take h.s.toNat)) = h.r
 ents : ∀ x, x < (lg h.o).length → (nthR (lg h.o) x).Ok ∧ ivOk (nthR (lg h.o) x).lo (nthR (lg h.o) x).hi = true
theorem inR_at {lg : Int → List En} {ps : List Int} {h : Hd} (H : LogOk lg ps h) {i : Nat} (hi : (i : Int) < h.s) : inR h i (nthR (lg h.o) i) (inclT (vals ((lg h.o).take h.s.toNat)) i) = true := by
 have hs := H.sg.ok.s
 have hl : (vals ((lg h.o).take h.s.toNat)).length = h.s.toNat := by rw [vals_len, List.length_take]; have := H.len; omega
 have h1 := incl_right (l := vals ((lg h.o).take h.s.toNat)) (i := i) (by rw [hl]; omega) (by rw [hl]; have := H.len; have := H.max; omega)
 rw [hl, H.root] at h1
 have e : (vals ((lg h.o).take h.s.toNat)).getD i 0 = valE (nthR (lg h.o) i) := by
  have hi2 : i < ((lg h.o).take h.s.toNat).length := by rw [List.length_take]; have := H.len; omega
  rw [List.getD_eq_getElem?_getD, vals, List.getElem?_map, ← nthR_take (show i < h.s.toNat by omega), nthR_get hi2, List.getElem?_eq_getElem hi2]
  simp
 rw [e] at h1
 exact h1
theorem path_len {lg : Int → List En} {ps : List Int} {h : Hd} (H : LogOk lg ps h) (i : Nat) : (inclT (vals ((lg h.o).take h.s.toNat)) i).length ≤ 12 :=
 incl_len 12 _ i (by rw [vals_len, List.length_take]; have := H.max; omega)
theorem rc_of {w : World} {ka : Option Addr} {kn kc : Nat} {ps : List Int} (K : Sl .i64 w ka kn kc ps) (hm : kn ≤ 16) (hk : Keys ps) {lg : Int → List En} {h : Hd} (H : LogOk lg ps h) {i : Nat} (hi : (i : Int) < h.s) {pa : Option Addr} {pn pc : Nat}
  (p : Sl .u64 w pa pn pc (inclT (vals ((lg h.o).take h.s.toNat)) i)) : RcOk w ka kn kc ps h i (nthR (lg h.o) i) pa pn pc (inclT (vals ((lg h.o).take h.s.toNat)) i) := by
 have hl : i < (lg h.o).length := by have := H.len; omega
 exact ⟨K, hm, hk, H.sg, hi, (H.ents i hl).1, (H.ents i hl).2, p, by rw [← p.hlen]; have := path_len H i; omega, inR_at H hi⟩
theorem firstE_at {es : List En} {d : Int} {k : Nat} (h : firstE es d = k) : k < es.length ∧ (nthR es k).d = d := by
 unfold firstE at h
 cases hf : es.findIdx? (fun e => decide (e.d = d)) with
 | none => rw [hf] at h; simp only at h; omega
 | some i =>
  rw [hf] at h
  simp only at h
  obtain rfl : i = k := by omega
  obtain ⟨h1, h2, _⟩ := List.findIdx?_eq_some_iff_getElem.1 hf
  exact ⟨h1, by rw [nthR_get h1]; simpa using h2⟩
theorem hop_at {lg : Int → List En} {ps : List Int} {g h : Hd} (H : LogOk lg ps h) (h0 : 0 ≤ hopAt lg g h) : ((hopAt lg g h).toNat : Int) < h.s ∧ (nthR (lg h.o) (hopAt lg g h).toNat).d = digH g := by
 obtain ⟨k, hk⟩ : ∃ k : Nat, hopAt lg g h = k := ⟨(hopAt lg g h).toNat, by omega⟩
 obtain ⟨h1, h2⟩ := firstE_at (show firstE ((lg h.o).take h.s.toNat) (digH g) = (k : Int) from hk)
 have hs := H.sg.ok.s
 rw [hk, Int.toNat_natCast]
 rw [List.length_take] at h1
 rw [nthR_take (by omega)] at h2
 exact ⟨by omega, h2⟩
theorem check_found {w : World} {ka : Option Addr} {kn kc : Nat} {ps : List Int} (K : Sl .i64 w ka kn kc ps) (hm : kn ≤ 16) (hkeys : Keys ps) {lg : Int → List En} {hs : List Hd} {from_ : Int} {i k : Nat} {c : Ch} (HC : ChOk lg hs from_ i c)
  (h4 : c.hs.length ≤ 4) (hks : (k : Int) < (lastH c.hs).s) (hat : c.at_ < k) (HL : ∀ h, h ∈ hs → LogOk lg ps h) {CL : List Value} {r1 r2 : RcR} {fa : Option Addr} {fn fc : Nat} {qs : List HpR} (P : PrS lg c i k w CL r1 r2 fa fn fc qs) (ht : TB w) :
  Calls Tryz.prog 14 #[.slice ka kn kc, .agg CL.toArray] w fun e9 w' => e9 = .returned (.tuple #[.bool true, .int .i64 0]) ∧ Ext w w' := by
 rw [P.is_]
 have hnum := P.num
 have hlen := HC.len
 have hlast : lastH c.hs = nthR c.hs fn := by unfold lastH; rw [show c.hs.length - 1 = fn by omega]
 have hmem : ∀ m, m < c.hs.length → LogOk lg ps (nthR c.hs m) := fun m h => HL _ (HC.mem m h)
 obtain ⟨a1, a2, a3⟩ := P.h1
 obtain ⟨b1, b2, b3⟩ := P.h2
 obtain ⟨rh, ri, re, rpa, rpn, rpc⟩ := r1
 obtain ⟨sh, si, se, spa, spn, spc⟩ := r2
 simp only at a1 a2 a3 b1 b2 b3
 subst a1 a2 a3 b1 b2 b3
 have hst : ∀ m, m ≤ fn → (stR ⟨nthR c.hs 0, ri, nthR (lg (nthR c.hs 0).o) ri, rpa, rpn, rpc⟩ qs m).h = nthR c.hs m := fun m h => by
  cases m with
  | zero => rfl
  | succ m => exact (P.hop m (by omega)).h_
 have h9 := hmem fn (by omega)
 rw [← hlast] at h9
 refine pcheck_yes ⟨⟨_, rc_of K hm hkeys (hmem 0 (by omega)) HC.fst.2 P.p1⟩, ⟨_, rc_of K hm hkeys h9 hks P.p2⟩, P.row, by omega, fun m h => ⟨?_, ?_⟩, ?_, ?_⟩ ht
 ·rw [(P.hop m h).g_, hst m (by omega)]
 ·have q := P.hop m h
  obtain ⟨n1, n2⟩ := HC.nxt m (by omega)
  obtain ⟨p1, p2⟩ := hop_at (hmem (m + 1) (by omega)) n1
  have hl := (hmem (m + 1) (by omega)).len
  refine ⟨pthQ lg (nthR qs m), ?_⟩
  have hp := q.pth
  have hp2 := q.pth
  unfold pthQ at hp2
  rw [q.h_, q.z_] at hp2
  have hrc := rc_of K hm hkeys (hmem (m + 1) (by omega)) p1 hp2
  refine ⟨K, hm, hkeys, ?_, ?_, ?_, ⟨rfl, Nat.zero_le _, q.grow, fun i hi => absurd hi (by omega), by simp⟩, ?_, ?_, ?_, hp, hrc.short, ?_, ?_⟩
  ·rw [q.g_]; exact (hmem m (by omega)).sg
  ·rw [q.h_]; exact (hmem (m + 1) (by omega)).sg
  ·rw [q.g_, q.h_]; exact fun e => n2 e.symm
  ·rw [q.h_, q.z_]; exact p1
  ·rw [q.e_]; exact hrc.ok
  ·rw [q.e_]; exact hrc.iv
  ·unfold pthQ
   rw [q.h_, q.z_, q.e_]
   exact hrc.inn
  ·rw [q.e_, q.g_]; exact p2
 ·rw [hst fn (Nat.le_refl _)]; exact hlast.symm
 ·show (stR _ qs fn).i < si
  cases hf : fn with
  | zero =>
   have := HC.at1 (by omega)
   simp only [stR]
   omega
  | succ m =>
   have h2 := HC.at2 m (by omega)
   have q := P.hop m (by omega)
   have h3 := (HC.nxt m (by omega)).1
   simp only [stR]
   rw [q.z_]
   omega
open Go.RowKit Go.Sort Go.Shelf Go.Maps
structure PastT (lg : Int → List En) (tm : Int → Nat → Int) (hs : List Hd) (st : Nat → Int) : Prop where
 inn : ∀ o x, x < (lg o).length → (nthR (lg o) x).lo ≤ tm o x ∧ tm o x ≤ (nthR (lg o) x).hi
 asc : ∀ o x y, x < y → y < (lg o).length → tm o x < tm o y
 len : ∀ m, m < hs.length → 0 ≤ (nthR hs m).s ∧ (nthR hs m).s ≤ (lg (nthR hs m).o).length
 sgn : ∀ m, m < hs.length → ∀ x : Nat, (x : Int) < (nthR hs m).s → tm (nthR hs m).o x < st m
 doc : ∀ o x, x < (lg o).length → (nthR (lg o) x).d < 4294967296 ∨ ∃ m, m < hs.length ∧ (nthR (lg o) x).d = digH (nthR hs m) ∧ st m < tm o x
def Dist (hs : List Hd) : Prop := (∀ m, m < hs.length → 4294967296 ≤ digH (nthR hs m)) ∧ ∀ m k, m < hs.length → k < hs.length → digH (nthR hs m) = digH (nthR hs k) → nthR hs m = nthR hs k
theorem hop_time {lg : Int → List En} {tm : Int → Nat → Int} {hs : List Hd} {st : Nat → Int} (P : PastT lg tm hs st) (D : Dist hs) {g : Hd} (hg : g ∈ hs) {x : Nat} (hx : (x : Int) < g.s) {o : Int} {z : Nat} (hz : z < (lg o).length) (hd : (nthR (lg o) z).d = digH g) : tm g.o x < tm o z := by
 obtain ⟨k, hk, rfl⟩ := List.mem_iff_getElem.1 hg
 rw [← nthR_get hk] at hx hd ⊢
 rcases P.doc o z hz with h1 | ⟨m, hm, h1, h2⟩
 ·have := D.1 k hk; omega
 ·have e := D.2 m k hm hk (by omega)
  have h3 := P.sgn m hm x (by rw [e]; exact hx)
  rw [e] at h3
  omega
theorem chain_time {lg : Int → List En} {tm : Int → Nat → Int} {hs hs' : List Hd} {st : Nat → Int} (P : PastT lg tm hs st) (D : Dist hs) (hsub : ∀ h, h ∈ hs' → h ∈ hs) {from_ : Int} {i : Nat} {c : Ch} (H : ChOk lg hs' from_ i c) :
  ∀ m, m < c.hs.length → ∃ y : Nat, (y : Int) < (nthR c.hs m).s ∧ tm from_ i ≤ tm (nthR c.hs m).o y ∧ (m + 1 = c.hs.length → c.at_ = y)
 | 0, hm => ⟨i, H.fst.2, by rw [H.fst.1]; exact Int.le_refl _, fun h => H.at1 h.symm⟩
 | m + 1, hm => by
  obtain ⟨y, h1, h2, _⟩ := chain_time P D hsub H m (by omega)
  obtain ⟨n1, _⟩ := H.nxt m hm
  obtain ⟨k, hk⟩ : ∃ k : Nat, hopAt lg (nthR c.hs m) (nthR c.hs (m + 1)) = k := ⟨(hopAt lg (nthR c.hs m) (nthR c.hs (m + 1))).toNat, by omega⟩
  obtain ⟨h3, h4⟩ := firstE_at (show firstE ((lg (nthR c.hs (m + 1)).o).take (nthR c.hs (m + 1)).s.toNat) (digH (nthR c.hs m)) = (k : Int) from hk)
  rw [List.length_take] at h3
  rw [nthR_take (by omega)] at h4
  have hg : nthR c.hs m ∈ hs := hsub _ (H.mem m (by omega))
  have h5 := hop_time P D hg h1 (o := (nthR c.hs (m + 1)).o) (z := k) (by omega) h4
  exact ⟨k, by omega, by omega, fun h => by rw [H.at2 m (by omega)]; exact hk⟩
theorem found_time {lg : Int → List En} {tm : Int → Nat → Int} {hs hs' : List Hd} {st : Nat → Int} (P : PastT lg tm hs st) (D : Dist hs) (hsub : ∀ h, h ∈ hs' → h ∈ hs) {from_ to_ : Int} {i k : Nat} (hi : i < (lg from_).length) (hk : k < (lg to_).length) {c : Ch}
  (h : srch lg hs' (okc to_ k) 4 (levA hs' from_ i) = some c) : tm from_ i < tm to_ k ∧ (nthR (lg from_) i).lo ≤ (nthR (lg to_) k).hi := by
 obtain ⟨H, h4, ho, hks, hat⟩ := srch_ok h
 have hl := H.len
 obtain ⟨y, h1, h2, h3⟩ := chain_time P D hsub H (c.hs.length - 1) (by omega)
 have h5 := h3 (by omega)
 have e : nthR c.hs (c.hs.length - 1) = lastH c.hs := rfl
 rw [e, ho] at h2
 have h6 := P.asc to_ y k (by omega) hk
 have h7 := P.inn from_ i hi
 have h8 := P.inn to_ k hk
 exact ⟨by omega, by omega⟩
open Go.RowKit Go.Sort Go.Shelf Go.Maps
theorem lenlit22z {vs : List Value} (h : vs.length = 22) : ∃ x0 x1 x2 x3 x4 x5 x6 x7 x8 x9 x10 x11 x12 x13 x14 x15 x16 x17 x18 x19 x20 x21 : Value, vs = [x0, x1, x2, x3, x4, x5, x6, x7, x8, x9, x10, x11, x12, x13, x14, x15, x16, x17, x18, x19, x20, x21] := by
 obtain ⟨x0, v0, rfl, h0⟩ := len_cons h
 obtain ⟨x1, v1, rfl, h1⟩ := len_cons h0
 obtain ⟨x2, v2, rfl, h2⟩ := len_cons h1
 obtain ⟨x3, v3, rfl, h3⟩ := len_cons h2
 obtain ⟨x4, v4, rfl, h4⟩ := len_cons h3
 obtain ⟨x5, v5, rfl, h5⟩ := len_cons h4
 obtain ⟨x6, v6, rfl, h6⟩ := len_cons h5
 obtain ⟨x7, v7, rfl, h7⟩ := len_cons h6
 obtain ⟨x8, v8, rfl, h8⟩ := len_cons h7
 obtain ⟨x9, v9, rfl, h9⟩ := len_cons h8
 obtain ⟨x10, v10, rfl, h10⟩ := len_cons h9
 obtain ⟨x11, v11, rfl, h11⟩ := len_cons h10
 obtain ⟨x12, v12, rfl, h12⟩ := len_cons h11
 obtain ⟨x13, v13, rfl, h13⟩ := len_cons h12
 obtain ⟨x14, v14, rfl, h14⟩ := len_cons h13
 obtain ⟨x15, v15, rfl, h15⟩ := len_cons h14
 obtain ⟨x16, v16, rfl, h16⟩ := len_cons h15
 obtain ⟨x17, v17, rfl, h17⟩ := len_cons h16
 obtain ⟨x18, v18, rfl, h18⟩ := len_cons h17
 obtain ⟨x19, v19, rfl, h19⟩ := len_cons h18
 obtain ⟨x20, v20, rfl, h20⟩ := len_cons h19
 obtain ⟨x21, v21, rfl, h21⟩ := len_cons h20
 obtain rfl := len_nil h21
 exact ⟨x0, x1, x2, x3, x4, x5, x6, x7, x8, x9, x10, x11, x12, x13, x14, x15, x16, x17, x18, x19, x20, x21, rfl⟩
theorem eqHd (g h : Hd) (w : World) : (Op.equalIn 10000 34 (.agg #[.int .i64 g.o, .int .i64 g.s, .int .u64 g.r, .int .i64 g.C, .int .i64 g.S]) (.agg #[.int .i64 h.o, .int .i64 h.s, .int .u64 h.r, .int .i64 h.C, .int .i64 h.S])).run Tryz.prog w = .ok (decide (g = h)) w := by
 have u3 := Tryz.underlying3
 have a3 := Tryz.isAgg3
 have z3 := Tryz.sizeOf3
 have u4 := Tryz.underlying25
 have a4 := Tryz.isAgg25
 have z4 := Tryz.sizeOf25
 have u6 := Tryz.isAgg32
 have z6 := Tryz.sizeOf32
 have hS : Tryz.prog.underlying 34 = some (.struct (Tryz.prog.fieldsOf 34)) := by kernel_rfl
 have hp : Tryz.prog.stoodInHeld 34 = false := by kernel_rfl
 have hS2 : Tryz.prog.underlying 32 = some (.struct (Tryz.prog.fieldsOf 32)) := by kernel_rfl
 have hp2 : Tryz.prog.stoodInHeld 32 = false := by kernel_rfl
 have e6 : ∀ (x y x' y' : Int) (w : World), (Op.equalIn 9999 32 (.agg #[.int .i64 x, .int .i64 y]) (.agg #[.int .i64 x', .int .i64 y'])).run Tryz.prog w = .ok (decide (x = x' ∧ y = y')) w := by
  intro x y x' y' w
  rw [show (9999 : Nat) = 9998 + 1 from rfl, run_equalIn_agg w 9998 32 _ _ hS2 hp2]
  simp only [Program.fieldsOf, Tryz.underlying32]
  go_simp
  by_cases h1 : x = x' <;> by_cases h2 : y = y' <;> simp [h1, h2]
 obtain ⟨g0, g1, g2, g3, g4⟩ := g
 obtain ⟨h0, h1, h2, h3, h4⟩ := h
 rw [show (10000 : Nat) = 9999 + 1 from rfl, run_equalIn_agg w 9999 34 _ _ hS hp]
 simp only [Program.fieldsOf, Tryz.underlying34]
 go_simp
 by_cases q0 : g0 = h0
 ·by_cases q1 : g1 = h1
  ·by_cases q2 : g2 = h2
   ·by_cases q3 : g3 = h3 <;> by_cases q4 : g4 = h4 <;> simp [q0, q1, q2, q3, q4, e6]
   ·simp [q0, q1, q2]
  ·simp [q0, q1]
 ·simp [q0]
theorem neqHd_run (g h : Hd) (w : World) : (binOp .neq 34 (.agg #[.int .i64 g.o, .int .i64 g.s, .int .u64 g.r, .int .i64 g.C, .int .i64 g.S]) (.agg #[.int .i64 h.o, .int .i64 h.s, .int .u64 h.r, .int .i64 h.C, .int .i64 h.S])).run Tryz.prog w = .ok (.bool (!decide (g = h))) w := by
 have h1 : (Op.equalIn Op.maxDepth 34 (.agg #[.int .i64 g.o, .int .i64 g.s, .int .u64 g.r, .int .i64 g.C, .int .i64 g.S]) (.agg #[.int .i64 h.o, .int .i64 h.s, .int .u64 h.r, .int .i64 h.C, .int .i64 h.S])).run Tryz.prog w = .ok (decide (g = h)) w := eqHd g h w
 generalize decide (g = h) = D at *
 simp [binOp, h1, Op.equal, Result.andThen]
theorem neqHd_guard (g h : Hd) (x y : Operand) (w : World) : (eqGuard .neq 34 x y (.agg #[.int .i64 g.o, .int .i64 g.s, .int .u64 g.r, .int .i64 g.C, .int .i64 g.S]) (.agg #[.int .i64 h.o, .int .i64 h.s, .int .u64 h.r, .int .i64 h.C, .int .i64 h.S])).run Tryz.prog w = .ok () w := by kernel_rfl
theorem neqHd {ops : Array Oper} {rest : List Oper} {op : Oper} {a : Act} {w : World} {Q : Exit → Act → World → Prop} (hgd : op.guard = none) (x y : Operand) (yt : TypeId) (ho : op.op = .binOp .neq 34 x y yt) (g h : Hd)
  (hx : a.eval x = .agg #[.int .i64 g.o, .int .i64 g.s, .int .u64 g.r, .int .i64 g.C, .int .i64 g.S]) (hy : a.eval y = .agg #[.int .i64 h.o, .int .i64 h.s, .int .u64 h.r, .int .i64 h.C, .int .i64 h.S]) (hK : wpList Tryz.prog ops Q rest (a.put op.dst (.bool (!decide (g = h)))) w) : wpList Tryz.prog ops Q (op :: rest) a w := by
 have h1 := neqHd_run g h w
 have h2 := neqHd_guard g h x y w
 refine wpList_plain hgd fun K hK2 => ?_
 unfold Oper.wp execOp
 simp only [ho, hx, hy, h1, h2, Sem.run_bind, Result.andThen_ok, Sem.run_pure]
 exact hK2 _ _ hK
set_option maxHeartbeats 8000000 in
theorem r7distinct_any {a : Option Addr} {n c : Nat} {hs : List Hd} {w : World} (H : Rw w a n c hs) :
  Calls Tryz.prog 21 #[.slice a n c] w fun e w' => ∃ b, e = .returned (.bool b) ∧ (b = true → Dist hs) ∧ Ext w w' := by
 have bd := H.bd
 have HL := Lib.hid H.hlen
 have HRW := Lib.hid H
 have HD := Lib.hid (fun (m : Nat) (hm : m < n) (W : World) => rdigest_any (nthR hs m) (H.wfAt hm) W)
 clear H
 go_enter Tryz.func21, Tryz.ntmps21
 go_wp2_with fail
 go_loopw [3] (fun ix wr => ∃ i : Nat, i ≤ n ∧ ix = .int .i64 i ∧ Hid ((∀ m, m < i → 4294967296 ≤ digH (nthR hs m)) ∧ (∀ m k, m < i → k < m → digH (nthR hs k) = digH (nthR hs m) → nthR hs k = nthR hs m)) ∧ Hid (Ext w wr)) (fun ix _ => n - (intOf ix).toNat)
 case atStart => exact ⟨0, by omega, rfl, Lib.hid ⟨fun m h => absurd h (by omega), fun m k h => absurd h (by omega)⟩, Lib.hid (Ext.refl w)⟩
 case round =>
  obtain ⟨i, hi, rfl, HV, HX⟩ := hrel
  by_cases hlt : i < n
  ·obtain ⟨xb, xo, rfl, hc1⟩ := HRW.out.at (by omega)
   have HC := Lib.hid hc1
   have hr := rangeAt_ext (hc1 i hlt) HX.out
   rw [sz_hd] at hr
   clear hc1
   have HDH := Lib.hid (HD.out i hlt)
   have HRH := Lib.hid (HC.out i hlt)
   rw [sz_hd] at HRH
   obtain ⟨h, hh⟩ : ∃ h, nthR hs i = h := ⟨_, rfl⟩
   have HHE := Lib.hid hh
   rw [hh] at hr HDH HRH
   clear hh
   obtain ⟨dh, hdh⟩ : ∃ d, digH h = d := ⟨_, rfl⟩
   have HDE := Lib.hid hdh
   rw [hdh] at HDH
   unfold hdV at HDH
   have HDH2 := HDH
   clear hdh
   obtain ⟨d0, d1, d2, d3, d4⟩ := cells_hd hr
   clear hr
   go_wp2_with (go_at_call 51; refine (HDH.out _).mono ?_; rintro e9 w1 ⟨rfl, hx1⟩; refine hold ?_)
   refine held ?_
   clear d0 d1 d2 d3 d4
   have HX1 := Lib.hid (HX.out.trans hx1)
   clear hx1 HX
   by_cases hsm : dh < 4294967296
   ·have k1 : decide (dh < 4294967296) = true := decide_eq_true hsm
    go_wp2_with fail
    go_ret
    exact ⟨false, rfl, (fun h9 => by cases h9), HX1.out⟩
   ·have k1 : decide (dh < 4294967296) = false := decide_eq_false hsm
    have HSM := Lib.hid hsm
    go_wp2_with fail
    clear k1 hsm
    go_loopw [4] (fun kx wr => ∃ k : Nat, k ≤ i ∧ kx = .int .i64 k ∧ Hid (∀ m, m < k → digH (nthR hs m) = dh → nthR hs m = h) ∧ Hid (Ext w wr)) (fun kx _ => i - (intOf kx).toNat)
    case atStart => exact ⟨0, by omega, rfl, Lib.hid (fun m h => absurd h (by omega)), HX1⟩
    case round =>
     obtain ⟨k, hk, rfl, HK, HX2⟩ := hrel
     by_cases hlt2 : k < i
     ·have hkn : k < n := by omega
      have HRG := Lib.hid (HC.out k hkn)
      have HDG := Lib.hid (HD.out k hkn)
      rw [sz_hd] at HRG
      obtain ⟨g, hg⟩ : ∃ h, nthR hs k = h := ⟨_, rfl⟩
      have HGE := Lib.hid hg
      rw [hg] at HRG HDG
      clear hg
      obtain ⟨dg, hdg⟩ : ∃ d, digH g = d := ⟨_, rfl⟩
      have HDF := Lib.hid hdg
      rw [hdg] at HDG
      unfold hdV at HDG
      clear hdg
      have HEQ0 := Lib.hid (fun W => eqHd g h W)
      have hxw := HX2.out
      replace HRG := Lib.hid (rangeAt_ext HRG.out hxw)
      have HRH2 := Lib.hid (rangeAt_ext HRH.out hxw)
      go_upto_region 9 with fail
      by_cases hgh : g = h
      ·have HEQ : Hid (decide (g = h) = true) := Lib.hid (decide_eq_true hgh)
       have HK2 : Hid (∀ m, m < k + 1 → digH (nthR hs m) = dh → nthR hs m = h) := Lib.hid (fun m hm e => by
        rcases Nat.lt_or_ge m k with h1 | h1
        ·exact HK.out m h1 e
        ·obtain rfl : m = k := by omega
         rw [HGE.out]; exact hgh)
       clear hgh
       refine region_rely (S := Ext) (fun W' => Ext wr W') [some 22, some 23, some 24, some 25, some 26, some 27, some 28, some 29, some 30, some 31, some 32, some 33, some 34, some 35, some 36, some 37, some 38, some 39, some 40, some 41, some 42, some 43] [[], [], [0, 1], [2], [], [], [4, 5], [6], [3, 7], [8], [9], [9], [9, 10, 11], [9, 12], [9, 13], [9], [9], [9, 15, 16], [9, 17], [9, 18], [9, 14, 19], [9, 20]] [[], [], [], [], [], [], [], [], [], [], [], [], [], [], [], [], [], [], [], [], [], []] [.one ((.slice (some ⟨xb, xo, none⟩) n c)), .one ((.int .i64 (k : Nat))), .one ((.pointer (some ⟨xb, xo + k * 5, none⟩))), .one ((.agg #[.int .i64 g.o, .int .i64 g.s, .int .u64 g.r, .int .i64 g.C, .int .i64 g.S])), .one ((.slice (some ⟨xb, xo, none⟩) n c)), .one ((.int .i64 (i : Nat))), .one ((.pointer (some ⟨xb, xo + i * 5, none⟩))), .one ((.agg #[.int .i64 h.o, .int .i64 h.s, .int .u64 h.r, .int .i64 h.C, .int .i64 h.S])), .one ((.bool false)), .one ((.bool false)), .one (undef), .one (undef), .one (undef), .one (undef), .one (undef), .one (undef), .one (undef), .one (undef), .one (undef), .one (undef), .one (undef), .one ((.bool false))] (by kernel_rfl) (by kernel_rfl) (Ext.refl wr).drew ?_ ?_
       ·refine stepsR_cons ?_ ?_
        ·intro vs W' hl hI hd ho
         refine hold ?_
         obtain ⟨x0, x1, x2, x3, x4, x5, x6, x7, x8, x9, x10, x11, x12, x13, x14, x15, x16, x17, x18, x19, x20, x21, rfl⟩ := lenlit22z hl; clear hl
         refine held ?_
         simp only [putAll, Act.put, List.setIfInBounds_toArray, List.set_cons_succ, List.set_cons_zero]
         go_wp2_with fail
         exact rely_done _ rfl rfl (Ext.refl _) hI
        refine stepsR_cons ?_ ?_
        ·intro vs W' hl hI hd ho
         refine hold ?_
         obtain ⟨x0, x1, x2, x3, x4, x5, x6, x7, x8, x9, x10, x11, x12, x13, x14, x15, x16, x17, x18, x19, x20, x21, rfl⟩ := lenlit22z hl; clear hl
         refine held ?_
         simp only [putAll, Act.put, List.setIfInBounds_toArray, List.set_cons_succ, List.set_cons_zero]
         go_wp2_with fail
         exact rely_done _ rfl rfl (Ext.refl _) hI
        refine stepsR_cons ?_ ?_
        ·intro vs W' hl hI hd ho
         refine hold ?_
         obtain ⟨x0, x1, x2, x3, x4, x5, x6, x7, x8, x9, x10, x11, x12, x13, x14, x15, x16, x17, x18, x19, x20, x21, rfl⟩ := lenlit22z hl; clear hl
         simp only [factsR, atR, List.getElem?_cons_succ, List.getElem?_cons_zero, Rel.one, Rel.blk] at hd
         obtain ⟨rfl, rfl, -⟩ := hd
         refine held ?_
         simp only [putAll, Act.put, List.setIfInBounds_toArray, List.set_cons_succ, List.set_cons_zero]
         go_wp2_with fail
         exact rely_done _ rfl rfl (Ext.refl _) hI
        refine stepsR_cons ?_ ?_
        ·intro vs W' hl hI hd ho
         refine hold ?_
         obtain ⟨x0, x1, x2, x3, x4, x5, x6, x7, x8, x9, x10, x11, x12, x13, x14, x15, x16, x17, x18, x19, x20, x21, rfl⟩ := lenlit22z hl; clear hl
         simp only [factsR, atR, List.getElem?_cons_succ, List.getElem?_cons_zero, Rel.one, Rel.blk] at hd
         obtain ⟨rfl, -⟩ := hd
         refine held ?_
         simp only [putAll, Act.put, List.setIfInBounds_toArray, List.set_cons_succ, List.set_cons_zero]
         obtain ⟨d0, d1, d2, d3, d4⟩ := cells_hd (rangeAt_ext HRG.out hI)
         go_wp2_with fail
         exact rely_done _ rfl rfl (Ext.refl _) hI
        refine stepsR_cons ?_ ?_
        ·intro vs W' hl hI hd ho
         refine hold ?_
         obtain ⟨x0, x1, x2, x3, x4, x5, x6, x7, x8, x9, x10, x11, x12, x13, x14, x15, x16, x17, x18, x19, x20, x21, rfl⟩ := lenlit22z hl; clear hl
         refine held ?_
         simp only [putAll, Act.put, List.setIfInBounds_toArray, List.set_cons_succ, List.set_cons_zero]
         go_wp2_with fail
         exact rely_done _ rfl rfl (Ext.refl _) hI
        refine stepsR_cons ?_ ?_
        ·intro vs W' hl hI hd ho
         refine hold ?_
         obtain ⟨x0, x1, x2, x3, x4, x5, x6, x7, x8, x9, x10, x11, x12, x13, x14, x15, x16, x17, x18, x19, x20, x21, rfl⟩ := lenlit22z hl; clear hl
         refine held ?_
         simp only [putAll, Act.put, List.setIfInBounds_toArray, List.set_cons_succ, List.set_cons_zero]
         go_wp2_with fail
         exact rely_done _ rfl rfl (Ext.refl _) hI
        refine stepsR_cons ?_ ?_
        ·intro vs W' hl hI hd ho
         refine hold ?_
         obtain ⟨x0, x1, x2, x3, x4, x5, x6, x7, x8, x9, x10, x11, x12, x13, x14, x15, x16, x17, x18, x19, x20, x21, rfl⟩ := lenlit22z hl; clear hl
         simp only [factsR, atR, List.getElem?_cons_succ, List.getElem?_cons_zero, Rel.one, Rel.blk] at hd
         obtain ⟨rfl, rfl, -⟩ := hd
         refine held ?_
         simp only [putAll, Act.put, List.setIfInBounds_toArray, List.set_cons_succ, List.set_cons_zero]
         go_wp2_with fail
         exact rely_done _ rfl rfl (Ext.refl _) hI
        refine stepsR_cons ?_ ?_
        ·intro vs W' hl hI hd ho
         refine hold ?_
         obtain ⟨x0, x1, x2, x3, x4, x5, x6, x7, x8, x9, x10, x11, x12, x13, x14, x15, x16, x17, x18, x19, x20, x21, rfl⟩ := lenlit22z hl; clear hl
         simp only [factsR, atR, List.getElem?_cons_succ, List.getElem?_cons_zero, Rel.one, Rel.blk] at hd
         obtain ⟨rfl, -⟩ := hd
         refine held ?_
         simp only [putAll, Act.put, List.setIfInBounds_toArray, List.set_cons_succ, List.set_cons_zero]
         obtain ⟨d0, d1, d2, d3, d4⟩ := cells_hd (rangeAt_ext HRH2.out hI)
         go_wp2_with fail
         exact rely_done _ rfl rfl (Ext.refl _) hI
        refine stepsR_cons ?_ ?_
        ·intro vs W' hl hI hd ho
         refine hold ?_
         obtain ⟨x0, x1, x2, x3, x4, x5, x6, x7, x8, x9, x10, x11, x12, x13, x14, x15, x16, x17, x18, x19, x20, x21, rfl⟩ := lenlit22z hl; clear hl
         simp only [factsR, atR, List.getElem?_cons_succ, List.getElem?_cons_zero, Rel.one, Rel.blk] at hd
         obtain ⟨rfl, rfl, -⟩ := hd
         refine held ?_
         simp only [putAll, Act.put, List.setIfInBounds_toArray, List.set_cons_succ, List.set_cons_zero]
         go_wp2_with (refine neqHd rfl _ _ _ rfl g h rfl rfl ?_; refine hold ?_)
         rw [HEQ.out]
         refine held ?_
         go_wp2_with fail
         exact rely_done _ rfl rfl (Ext.refl _) hI
        refine stepsR_cons ?_ ?_
        ·intro vs W' hl hI hd ho
         refine hold ?_
         obtain ⟨x0, x1, x2, x3, x4, x5, x6, x7, x8, x9, x10, x11, x12, x13, x14, x15, x16, x17, x18, x19, x20, x21, rfl⟩ := lenlit22z hl; clear hl
         simp only [factsR, atR, List.getElem?_cons_succ, List.getElem?_cons_zero, Rel.one, Rel.blk] at hd
         obtain ⟨rfl, -⟩ := hd
         refine held ?_
         simp only [putAll, Act.put, List.setIfInBounds_toArray, List.set_cons_succ, List.set_cons_zero]
         go_wp2_with fail
         exact rely_done _ rfl rfl (Ext.refl _) hI
        refine stepsR_cons ?_ ?_
        ·intro vs W' hl hI hd ho
         refine hold ?_
         obtain ⟨x0, x1, x2, x3, x4, x5, x6, x7, x8, x9, x10, x11, x12, x13, x14, x15, x16, x17, x18, x19, x20, x21, rfl⟩ := lenlit22z hl; clear hl
         simp only [factsR, atR, List.getElem?_cons_succ, List.getElem?_cons_zero, Rel.one, Rel.blk] at hd
         obtain ⟨rfl, -⟩ := hd
         refine held ?_
         simp only [putAll, Act.put, List.setIfInBounds_toArray, List.set_cons_succ, List.set_cons_zero]
         skip
         exact rely_undef (by rfl) rfl rfl (Ext.refl _) hI
        refine stepsR_cons ?_ ?_
        ·intro vs W' hl hI hd ho
         refine hold ?_
         obtain ⟨x0, x1, x2, x3, x4, x5, x6, x7, x8, x9, x10, x11, x12, x13, x14, x15, x16, x17, x18, x19, x20, x21, rfl⟩ := lenlit22z hl; clear hl
         simp only [factsR, atR, List.getElem?_cons_succ, List.getElem?_cons_zero, Rel.one, Rel.blk] at hd
         obtain ⟨rfl, -⟩ := hd
         refine held ?_
         simp only [putAll, Act.put, List.setIfInBounds_toArray, List.set_cons_succ, List.set_cons_zero]
         skip
         exact rely_undef (by rfl) rfl rfl (Ext.refl _) hI
        refine stepsR_cons ?_ ?_
        ·intro vs W' hl hI hd ho
         refine hold ?_
         obtain ⟨x0, x1, x2, x3, x4, x5, x6, x7, x8, x9, x10, x11, x12, x13, x14, x15, x16, x17, x18, x19, x20, x21, rfl⟩ := lenlit22z hl; clear hl
         simp only [factsR, atR, List.getElem?_cons_succ, List.getElem?_cons_zero, Rel.one, Rel.blk] at hd
         obtain ⟨rfl, rfl, rfl, -⟩ := hd
         refine held ?_
         simp only [putAll, Act.put, List.setIfInBounds_toArray, List.set_cons_succ, List.set_cons_zero]
         skip
         exact rely_undef (by rfl) rfl rfl (Ext.refl _) hI
        refine stepsR_cons ?_ ?_
        ·intro vs W' hl hI hd ho
         refine hold ?_
         obtain ⟨x0, x1, x2, x3, x4, x5, x6, x7, x8, x9, x10, x11, x12, x13, x14, x15, x16, x17, x18, x19, x20, x21, rfl⟩ := lenlit22z hl; clear hl
         simp only [factsR, atR, List.getElem?_cons_succ, List.getElem?_cons_zero, Rel.one, Rel.blk] at hd
         obtain ⟨rfl, rfl, -⟩ := hd
         refine held ?_
         simp only [putAll, Act.put, List.setIfInBounds_toArray, List.set_cons_succ, List.set_cons_zero]
         skip
         exact rely_undef (by rfl) rfl rfl (Ext.refl _) hI
        refine stepsR_cons ?_ ?_
        ·intro vs W' hl hI hd ho
         refine hold ?_
         obtain ⟨x0, x1, x2, x3, x4, x5, x6, x7, x8, x9, x10, x11, x12, x13, x14, x15, x16, x17, x18, x19, x20, x21, rfl⟩ := lenlit22z hl; clear hl
         simp only [factsR, atR, List.getElem?_cons_succ, List.getElem?_cons_zero, Rel.one, Rel.blk] at hd
         obtain ⟨rfl, rfl, -⟩ := hd
         refine held ?_
         simp only [putAll, Act.put, List.setIfInBounds_toArray, List.set_cons_succ, List.set_cons_zero]
         skip
         exact rely_undef (by rfl) rfl rfl (Ext.refl _) hI
        refine stepsR_cons ?_ ?_
        ·intro vs W' hl hI hd ho
         refine hold ?_
         obtain ⟨x0, x1, x2, x3, x4, x5, x6, x7, x8, x9, x10, x11, x12, x13, x14, x15, x16, x17, x18, x19, x20, x21, rfl⟩ := lenlit22z hl; clear hl
         simp only [factsR, atR, List.getElem?_cons_succ, List.getElem?_cons_zero, Rel.one, Rel.blk] at hd
         obtain ⟨rfl, -⟩ := hd
         refine held ?_
         simp only [putAll, Act.put, List.setIfInBounds_toArray, List.set_cons_succ, List.set_cons_zero]
         skip
         exact rely_undef (by rfl) rfl rfl (Ext.refl _) hI
        refine stepsR_cons ?_ ?_
        ·intro vs W' hl hI hd ho
         refine hold ?_
         obtain ⟨x0, x1, x2, x3, x4, x5, x6, x7, x8, x9, x10, x11, x12, x13, x14, x15, x16, x17, x18, x19, x20, x21, rfl⟩ := lenlit22z hl; clear hl
         simp only [factsR, atR, List.getElem?_cons_succ, List.getElem?_cons_zero, Rel.one, Rel.blk] at hd
         obtain ⟨rfl, -⟩ := hd
         refine held ?_
         simp only [putAll, Act.put, List.setIfInBounds_toArray, List.set_cons_succ, List.set_cons_zero]
         skip
         exact rely_undef (by rfl) rfl rfl (Ext.refl _) hI
        refine stepsR_cons ?_ ?_
        ·intro vs W' hl hI hd ho
         refine hold ?_
         obtain ⟨x0, x1, x2, x3, x4, x5, x6, x7, x8, x9, x10, x11, x12, x13, x14, x15, x16, x17, x18, x19, x20, x21, rfl⟩ := lenlit22z hl; clear hl
         simp only [factsR, atR, List.getElem?_cons_succ, List.getElem?_cons_zero, Rel.one, Rel.blk] at hd
         obtain ⟨rfl, rfl, rfl, -⟩ := hd
         refine held ?_
         simp only [putAll, Act.put, List.setIfInBounds_toArray, List.set_cons_succ, List.set_cons_zero]
         skip
         exact rely_undef (by rfl) rfl rfl (Ext.refl _) hI
        refine stepsR_cons ?_ ?_
        ·intro vs W' hl hI hd ho
         refine hold ?_
         obtain ⟨x0, x1, x2, x3, x4, x5, x6, x7, x8, x9, x10, x11, x12, x13, x14, x15, x16, x17, x18, x19, x20, x21, rfl⟩ := lenlit22z hl; clear hl
         simp only [factsR, atR, List.getElem?_cons_succ, List.getElem?_cons_zero, Rel.one, Rel.blk] at hd
         obtain ⟨rfl, rfl, -⟩ := hd
         refine held ?_
         simp only [putAll, Act.put, List.setIfInBounds_toArray, List.set_cons_succ, List.set_cons_zero]
         skip
         exact rely_undef (by rfl) rfl rfl (Ext.refl _) hI
        refine stepsR_cons ?_ ?_
        ·intro vs W' hl hI hd ho
         refine hold ?_
         obtain ⟨x0, x1, x2, x3, x4, x5, x6, x7, x8, x9, x10, x11, x12, x13, x14, x15, x16, x17, x18, x19, x20, x21, rfl⟩ := lenlit22z hl; clear hl
         simp only [factsR, atR, List.getElem?_cons_succ, List.getElem?_cons_zero, Rel.one, Rel.blk] at hd
         obtain ⟨rfl, rfl, -⟩ := hd
         refine held ?_
         simp only [putAll, Act.put, List.setIfInBounds_toArray, List.set_cons_succ, List.set_cons_zero]
         skip
         exact rely_undef (by rfl) rfl rfl (Ext.refl _) hI
        refine stepsR_cons ?_ ?_
        ·intro vs W' hl hI hd ho
         refine hold ?_
         obtain ⟨x0, x1, x2, x3, x4, x5, x6, x7, x8, x9, x10, x11, x12, x13, x14, x15, x16, x17, x18, x19, x20, x21, rfl⟩ := lenlit22z hl; clear hl
         simp only [factsR, atR, List.getElem?_cons_succ, List.getElem?_cons_zero, Rel.one, Rel.blk] at hd
         obtain ⟨rfl, rfl, rfl, -⟩ := hd
         refine held ?_
         simp only [putAll, Act.put, List.setIfInBounds_toArray, List.set_cons_succ, List.set_cons_zero]
         skip
         exact rely_undef (by rfl) rfl rfl (Ext.refl _) hI
        refine stepsR_cons ?_ ?_
        ·intro vs W' hl hI hd ho
         refine hold ?_
         obtain ⟨x0, x1, x2, x3, x4, x5, x6, x7, x8, x9, x10, x11, x12, x13, x14, x15, x16, x17, x18, x19, x20, x21, rfl⟩ := lenlit22z hl; clear hl
         simp only [factsR, atR, List.getElem?_cons_succ, List.getElem?_cons_zero, Rel.one, Rel.blk] at hd
         obtain ⟨rfl, rfl, -⟩ := hd
         refine held ?_
         simp only [putAll, Act.put, List.setIfInBounds_toArray, List.set_cons_succ, List.set_cons_zero]
         go_wp2_with fail
         exact rely_done _ rfl rfl (Ext.refl _) hI
        exact trivial
       intro vs W' hl hI hd
       obtain ⟨x0, x1, x2, x3, x4, x5, x6, x7, x8, x9, x10, x11, x12, x13, x14, x15, x16, x17, x18, x19, x20, x21, rfl⟩ := lenlit22z hl; clear hl
       simp only [List.length_cons, List.length_nil, List.range, List.range.loop, Nat.zero_add, Nat.reduceAdd, factsR, atR, List.getElem?_cons_succ, List.getElem?_cons_zero, Rel.one, Rel.blk] at hd
       obtain ⟨rfl, rfl, rfl, rfl, rfl, rfl, rfl, rfl, rfl, rfl, rfl, rfl, rfl, rfl, rfl, rfl, rfl, rfl, rfl, rfl, rfl, rfl, -⟩ := hd
       simp only [putAll, Act.put, List.setIfInBounds_toArray, List.set_cons_succ, List.set_cons_zero]
       have hW := hxw.trans hI
       clear hI
       go_wp2_with fail
       exact ⟨⟨k + 1, by omega, by go_num, HK2, Lib.hid hW⟩, by simp only [intOf]; omega⟩
      ·have HEQ : Hid (decide (g = h) = false) := Lib.hid (decide_eq_false hgh)
       clear hgh
       refine region_rely (S := Ext) (fun W' => Ext wr W') [some 22, some 23, some 24, some 25, some 26, some 27, some 28, some 29, some 30, some 31, some 32, some 33, some 34, some 35, some 36, some 37, some 38, some 39, some 40, some 41, some 42, some 43] [[], [], [0, 1], [2], [], [], [4, 5], [6], [3, 7], [8], [9], [9], [9, 10, 11], [9, 12], [9, 13], [9], [9], [9, 15, 16], [9, 17], [9, 18], [9, 14, 19], [9, 20]] [[], [], [], [], [], [], [], [], [], [], [], [], [], [], [], [], [], [], [], [], [], []] [.one ((.slice (some ⟨xb, xo, none⟩) n c)), .one ((.int .i64 (k : Nat))), .one ((.pointer (some ⟨xb, xo + k * 5, none⟩))), .one ((.agg #[.int .i64 g.o, .int .i64 g.s, .int .u64 g.r, .int .i64 g.C, .int .i64 g.S])), .one ((.slice (some ⟨xb, xo, none⟩) n c)), .one ((.int .i64 (i : Nat))), .one ((.pointer (some ⟨xb, xo + i * 5, none⟩))), .one ((.agg #[.int .i64 h.o, .int .i64 h.s, .int .u64 h.r, .int .i64 h.C, .int .i64 h.S])), .one ((.bool true)), .one ((.bool true)), .one ((.slice (some ⟨xb, xo, none⟩) n c)), .one ((.int .i64 (k : Nat))), .one ((.pointer (some ⟨xb, xo + k * 5, none⟩))), .one ((.agg #[.int .i64 g.o, .int .i64 g.s, .int .u64 g.r, .int .i64 g.C, .int .i64 g.S])), .one ((.int .u64 dg)), .one ((.slice (some ⟨xb, xo, none⟩) n c)), .one ((.int .i64 (i : Nat))), .one ((.pointer (some ⟨xb, xo + i * 5, none⟩))), .one ((.agg #[.int .i64 h.o, .int .i64 h.s, .int .u64 h.r, .int .i64 h.C, .int .i64 h.S])), .one ((.int .u64 dh)), .one ((.bool (dg == dh))), .one ((.bool (dg == dh)))] (by kernel_rfl) (by kernel_rfl) (Ext.refl wr).drew ?_ ?_
       ·refine stepsR_cons ?_ ?_
        ·intro vs W' hl hI hd ho
         refine hold ?_
         obtain ⟨x0, x1, x2, x3, x4, x5, x6, x7, x8, x9, x10, x11, x12, x13, x14, x15, x16, x17, x18, x19, x20, x21, rfl⟩ := lenlit22z hl; clear hl
         refine held ?_
         simp only [putAll, Act.put, List.setIfInBounds_toArray, List.set_cons_succ, List.set_cons_zero]
         go_wp2_with fail
         exact rely_done _ rfl rfl (Ext.refl _) hI
        refine stepsR_cons ?_ ?_
        ·intro vs W' hl hI hd ho
         refine hold ?_
         obtain ⟨x0, x1, x2, x3, x4, x5, x6, x7, x8, x9, x10, x11, x12, x13, x14, x15, x16, x17, x18, x19, x20, x21, rfl⟩ := lenlit22z hl; clear hl
         refine held ?_
         simp only [putAll, Act.put, List.setIfInBounds_toArray, List.set_cons_succ, List.set_cons_zero]
         go_wp2_with fail
         exact rely_done _ rfl rfl (Ext.refl _) hI
        refine stepsR_cons ?_ ?_
        ·intro vs W' hl hI hd ho
         refine hold ?_
         obtain ⟨x0, x1, x2, x3, x4, x5, x6, x7, x8, x9, x10, x11, x12, x13, x14, x15, x16, x17, x18, x19, x20, x21, rfl⟩ := lenlit22z hl; clear hl
         simp only [factsR, atR, List.getElem?_cons_succ, List.getElem?_cons_zero, Rel.one, Rel.blk] at hd
         obtain ⟨rfl, rfl, -⟩ := hd
         refine held ?_
         simp only [putAll, Act.put, List.setIfInBounds_toArray, List.set_cons_succ, List.set_cons_zero]
         go_wp2_with fail
         exact rely_done _ rfl rfl (Ext.refl _) hI
        refine stepsR_cons ?_ ?_
        ·intro vs W' hl hI hd ho
         refine hold ?_
         obtain ⟨x0, x1, x2, x3, x4, x5, x6, x7, x8, x9, x10, x11, x12, x13, x14, x15, x16, x17, x18, x19, x20, x21, rfl⟩ := lenlit22z hl; clear hl
         simp only [factsR, atR, List.getElem?_cons_succ, List.getElem?_cons_zero, Rel.one, Rel.blk] at hd
         obtain ⟨rfl, -⟩ := hd
         refine held ?_
         simp only [putAll, Act.put, List.setIfInBounds_toArray, List.set_cons_succ, List.set_cons_zero]
         obtain ⟨d0, d1, d2, d3, d4⟩ := cells_hd (rangeAt_ext HRG.out hI)
         go_wp2_with fail
         exact rely_done _ rfl rfl (Ext.refl _) hI
        refine stepsR_cons ?_ ?_
        ·intro vs W' hl hI hd ho
         refine hold ?_
         obtain ⟨x0, x1, x2, x3, x4, x5, x6, x7, x8, x9, x10, x11, x12, x13, x14, x15, x16, x17, x18, x19, x20, x21, rfl⟩ := lenlit22z hl; clear hl
         refine held ?_
         simp only [putAll, Act.put, List.setIfInBounds_toArray, List.set_cons_succ, List.set_cons_zero]
         go_wp2_with fail
         exact rely_done _ rfl rfl (Ext.refl _) hI
        refine stepsR_cons ?_ ?_
        ·intro vs W' hl hI hd ho
         refine hold ?_
         obtain ⟨x0, x1, x2, x3, x4, x5, x6, x7, x8, x9, x10, x11, x12, x13, x14, x15, x16, x17, x18, x19, x20, x21, rfl⟩ := lenlit22z hl; clear hl
         refine held ?_
         simp only [putAll, Act.put, List.setIfInBounds_toArray, List.set_cons_succ, List.set_cons_zero]
         go_wp2_with fail
         exact rely_done _ rfl rfl (Ext.refl _) hI
        refine stepsR_cons ?_ ?_
        ·intro vs W' hl hI hd ho
         refine hold ?_
         obtain ⟨x0, x1, x2, x3, x4, x5, x6, x7, x8, x9, x10, x11, x12, x13, x14, x15, x16, x17, x18, x19, x20, x21, rfl⟩ := lenlit22z hl; clear hl
         simp only [factsR, atR, List.getElem?_cons_succ, List.getElem?_cons_zero, Rel.one, Rel.blk] at hd
         obtain ⟨rfl, rfl, -⟩ := hd
         refine held ?_
         simp only [putAll, Act.put, List.setIfInBounds_toArray, List.set_cons_succ, List.set_cons_zero]
         go_wp2_with fail
         exact rely_done _ rfl rfl (Ext.refl _) hI
        refine stepsR_cons ?_ ?_
        ·intro vs W' hl hI hd ho
         refine hold ?_
         obtain ⟨x0, x1, x2, x3, x4, x5, x6, x7, x8, x9, x10, x11, x12, x13, x14, x15, x16, x17, x18, x19, x20, x21, rfl⟩ := lenlit22z hl; clear hl
         simp only [factsR, atR, List.getElem?_cons_succ, List.getElem?_cons_zero, Rel.one, Rel.blk] at hd
         obtain ⟨rfl, -⟩ := hd
         refine held ?_
         simp only [putAll, Act.put, List.setIfInBounds_toArray, List.set_cons_succ, List.set_cons_zero]
         obtain ⟨d0, d1, d2, d3, d4⟩ := cells_hd (rangeAt_ext HRH2.out hI)
         go_wp2_with fail
         exact rely_done _ rfl rfl (Ext.refl _) hI
        refine stepsR_cons ?_ ?_
        ·intro vs W' hl hI hd ho
         refine hold ?_
         obtain ⟨x0, x1, x2, x3, x4, x5, x6, x7, x8, x9, x10, x11, x12, x13, x14, x15, x16, x17, x18, x19, x20, x21, rfl⟩ := lenlit22z hl; clear hl
         simp only [factsR, atR, List.getElem?_cons_succ, List.getElem?_cons_zero, Rel.one, Rel.blk] at hd
         obtain ⟨rfl, rfl, -⟩ := hd
         refine held ?_
         simp only [putAll, Act.put, List.setIfInBounds_toArray, List.set_cons_succ, List.set_cons_zero]
         go_wp2_with (refine neqHd rfl _ _ _ rfl g h rfl rfl ?_; refine hold ?_)
         rw [HEQ.out]
         refine held ?_
         go_wp2_with fail
         exact rely_done _ rfl rfl (Ext.refl _) hI
        refine stepsR_cons ?_ ?_
        ·intro vs W' hl hI hd ho
         refine hold ?_
         obtain ⟨x0, x1, x2, x3, x4, x5, x6, x7, x8, x9, x10, x11, x12, x13, x14, x15, x16, x17, x18, x19, x20, x21, rfl⟩ := lenlit22z hl; clear hl
         simp only [factsR, atR, List.getElem?_cons_succ, List.getElem?_cons_zero, Rel.one, Rel.blk] at hd
         obtain ⟨rfl, -⟩ := hd
         refine held ?_
         simp only [putAll, Act.put, List.setIfInBounds_toArray, List.set_cons_succ, List.set_cons_zero]
         go_wp2_with fail
         exact rely_done _ rfl rfl (Ext.refl _) hI
        refine stepsR_cons ?_ ?_
        ·intro vs W' hl hI hd ho
         refine hold ?_
         obtain ⟨x0, x1, x2, x3, x4, x5, x6, x7, x8, x9, x10, x11, x12, x13, x14, x15, x16, x17, x18, x19, x20, x21, rfl⟩ := lenlit22z hl; clear hl
         simp only [factsR, atR, List.getElem?_cons_succ, List.getElem?_cons_zero, Rel.one, Rel.blk] at hd
         obtain ⟨rfl, -⟩ := hd
         refine held ?_
         simp only [putAll, Act.put, List.setIfInBounds_toArray, List.set_cons_succ, List.set_cons_zero]
         refine wantedOp (by rfl) ?_
         go_wp2_with fail
         exact rely_done _ rfl rfl (Ext.refl _) hI
        refine stepsR_cons ?_ ?_
        ·intro vs W' hl hI hd ho
         refine hold ?_
         obtain ⟨x0, x1, x2, x3, x4, x5, x6, x7, x8, x9, x10, x11, x12, x13, x14, x15, x16, x17, x18, x19, x20, x21, rfl⟩ := lenlit22z hl; clear hl
         simp only [factsR, atR, List.getElem?_cons_succ, List.getElem?_cons_zero, Rel.one, Rel.blk] at hd
         obtain ⟨rfl, -⟩ := hd
         refine held ?_
         simp only [putAll, Act.put, List.setIfInBounds_toArray, List.set_cons_succ, List.set_cons_zero]
         refine wantedOp (by rfl) ?_
         go_wp2_with fail
         exact rely_done _ rfl rfl (Ext.refl _) hI
        refine stepsR_cons ?_ ?_
        ·intro vs W' hl hI hd ho
         refine hold ?_
         obtain ⟨x0, x1, x2, x3, x4, x5, x6, x7, x8, x9, x10, x11, x12, x13, x14, x15, x16, x17, x18, x19, x20, x21, rfl⟩ := lenlit22z hl; clear hl
         simp only [factsR, atR, List.getElem?_cons_succ, List.getElem?_cons_zero, Rel.one, Rel.blk] at hd
         obtain ⟨rfl, rfl, rfl, -⟩ := hd
         refine held ?_
         simp only [putAll, Act.put, List.setIfInBounds_toArray, List.set_cons_succ, List.set_cons_zero]
         refine wantedOp (by rfl) ?_
         go_wp2_with fail
         exact rely_done _ rfl rfl (Ext.refl _) hI
        refine stepsR_cons ?_ ?_
        ·intro vs W' hl hI hd ho
         refine hold ?_
         obtain ⟨x0, x1, x2, x3, x4, x5, x6, x7, x8, x9, x10, x11, x12, x13, x14, x15, x16, x17, x18, x19, x20, x21, rfl⟩ := lenlit22z hl; clear hl
         simp only [factsR, atR, List.getElem?_cons_succ, List.getElem?_cons_zero, Rel.one, Rel.blk] at hd
         obtain ⟨rfl, rfl, -⟩ := hd
         refine held ?_
         simp only [putAll, Act.put, List.setIfInBounds_toArray, List.set_cons_succ, List.set_cons_zero]
         refine wantedOp (by rfl) ?_
         obtain ⟨d0, d1, d2, d3, d4⟩ := cells_hd (rangeAt_ext HRG.out hI)
         go_wp2_with fail
         exact rely_done _ rfl rfl (Ext.refl _) hI
        refine stepsR_cons ?_ ?_
        ·intro vs W' hl hI hd ho
         refine hold ?_
         obtain ⟨x0, x1, x2, x3, x4, x5, x6, x7, x8, x9, x10, x11, x12, x13, x14, x15, x16, x17, x18, x19, x20, x21, rfl⟩ := lenlit22z hl; clear hl
         simp only [factsR, atR, List.getElem?_cons_succ, List.getElem?_cons_zero, Rel.one, Rel.blk] at hd
         obtain ⟨rfl, rfl, -⟩ := hd
         refine held ?_
         simp only [putAll, Act.put, List.setIfInBounds_toArray, List.set_cons_succ, List.set_cons_zero]
         refine wantedOp (by rfl) ?_
         go_wp2_with (go_at_call 51; refine (HDG.out _).mono ?_; rintro e9 w9 ⟨rfl, hx9⟩)
         exact rely_done _ rfl rfl hx9 (hI.trans hx9)
        refine stepsR_cons ?_ ?_
        ·intro vs W' hl hI hd ho
         refine hold ?_
         obtain ⟨x0, x1, x2, x3, x4, x5, x6, x7, x8, x9, x10, x11, x12, x13, x14, x15, x16, x17, x18, x19, x20, x21, rfl⟩ := lenlit22z hl; clear hl
         simp only [factsR, atR, List.getElem?_cons_succ, List.getElem?_cons_zero, Rel.one, Rel.blk] at hd
         obtain ⟨rfl, -⟩ := hd
         refine held ?_
         simp only [putAll, Act.put, List.setIfInBounds_toArray, List.set_cons_succ, List.set_cons_zero]
         refine wantedOp (by rfl) ?_
         go_wp2_with fail
         exact rely_done _ rfl rfl (Ext.refl _) hI
        refine stepsR_cons ?_ ?_
        ·intro vs W' hl hI hd ho
         refine hold ?_
         obtain ⟨x0, x1, x2, x3, x4, x5, x6, x7, x8, x9, x10, x11, x12, x13, x14, x15, x16, x17, x18, x19, x20, x21, rfl⟩ := lenlit22z hl; clear hl
         simp only [factsR, atR, List.getElem?_cons_succ, List.getElem?_cons_zero, Rel.one, Rel.blk] at hd
         obtain ⟨rfl, -⟩ := hd
         refine held ?_
         simp only [putAll, Act.put, List.setIfInBounds_toArray, List.set_cons_succ, List.set_cons_zero]
         refine wantedOp (by rfl) ?_
         go_wp2_with fail
         exact rely_done _ rfl rfl (Ext.refl _) hI
        refine stepsR_cons ?_ ?_
        ·intro vs W' hl hI hd ho
         refine hold ?_
         obtain ⟨x0, x1, x2, x3, x4, x5, x6, x7, x8, x9, x10, x11, x12, x13, x14, x15, x16, x17, x18, x19, x20, x21, rfl⟩ := lenlit22z hl; clear hl
         simp only [factsR, atR, List.getElem?_cons_succ, List.getElem?_cons_zero, Rel.one, Rel.blk] at hd
         obtain ⟨rfl, rfl, rfl, -⟩ := hd
         refine held ?_
         simp only [putAll, Act.put, List.setIfInBounds_toArray, List.set_cons_succ, List.set_cons_zero]
         refine wantedOp (by rfl) ?_
         go_wp2_with fail
         exact rely_done _ rfl rfl (Ext.refl _) hI
        refine stepsR_cons ?_ ?_
        ·intro vs W' hl hI hd ho
         refine hold ?_
         obtain ⟨x0, x1, x2, x3, x4, x5, x6, x7, x8, x9, x10, x11, x12, x13, x14, x15, x16, x17, x18, x19, x20, x21, rfl⟩ := lenlit22z hl; clear hl
         simp only [factsR, atR, List.getElem?_cons_succ, List.getElem?_cons_zero, Rel.one, Rel.blk] at hd
         obtain ⟨rfl, rfl, -⟩ := hd
         refine held ?_
         simp only [putAll, Act.put, List.setIfInBounds_toArray, List.set_cons_succ, List.set_cons_zero]
         refine wantedOp (by rfl) ?_
         obtain ⟨d0, d1, d2, d3, d4⟩ := cells_hd (rangeAt_ext HRH2.out hI)
         go_wp2_with fail
         exact rely_done _ rfl rfl (Ext.refl _) hI
        refine stepsR_cons ?_ ?_
        ·intro vs W' hl hI hd ho
         refine hold ?_
         obtain ⟨x0, x1, x2, x3, x4, x5, x6, x7, x8, x9, x10, x11, x12, x13, x14, x15, x16, x17, x18, x19, x20, x21, rfl⟩ := lenlit22z hl; clear hl
         simp only [factsR, atR, List.getElem?_cons_succ, List.getElem?_cons_zero, Rel.one, Rel.blk] at hd
         obtain ⟨rfl, rfl, -⟩ := hd
         refine held ?_
         simp only [putAll, Act.put, List.setIfInBounds_toArray, List.set_cons_succ, List.set_cons_zero]
         refine wantedOp (by rfl) ?_
         go_wp2_with (go_at_call 51; refine (HDH2.out _).mono ?_; rintro e9 w9 ⟨rfl, hx9⟩)
         exact rely_done _ rfl rfl hx9 (hI.trans hx9)
        refine stepsR_cons ?_ ?_
        ·intro vs W' hl hI hd ho
         refine hold ?_
         obtain ⟨x0, x1, x2, x3, x4, x5, x6, x7, x8, x9, x10, x11, x12, x13, x14, x15, x16, x17, x18, x19, x20, x21, rfl⟩ := lenlit22z hl; clear hl
         simp only [factsR, atR, List.getElem?_cons_succ, List.getElem?_cons_zero, Rel.one, Rel.blk] at hd
         obtain ⟨rfl, rfl, rfl, -⟩ := hd
         refine held ?_
         simp only [putAll, Act.put, List.setIfInBounds_toArray, List.set_cons_succ, List.set_cons_zero]
         refine wantedOp (by rfl) ?_
         go_wp2_with fail
         exact rely_done _ rfl rfl (Ext.refl _) hI
        refine stepsR_cons ?_ ?_
        ·intro vs W' hl hI hd ho
         refine hold ?_
         obtain ⟨x0, x1, x2, x3, x4, x5, x6, x7, x8, x9, x10, x11, x12, x13, x14, x15, x16, x17, x18, x19, x20, x21, rfl⟩ := lenlit22z hl; clear hl
         simp only [factsR, atR, List.getElem?_cons_succ, List.getElem?_cons_zero, Rel.one, Rel.blk] at hd
         obtain ⟨rfl, rfl, -⟩ := hd
         refine held ?_
         simp only [putAll, Act.put, List.setIfInBounds_toArray, List.set_cons_succ, List.set_cons_zero]
         go_wp2_with fail
         exact rely_done _ rfl rfl (Ext.refl _) hI
        exact trivial
       intro vs W' hl hI hd
       obtain ⟨x0, x1, x2, x3, x4, x5, x6, x7, x8, x9, x10, x11, x12, x13, x14, x15, x16, x17, x18, x19, x20, x21, rfl⟩ := lenlit22z hl; clear hl
       simp only [List.length_cons, List.length_nil, List.range, List.range.loop, Nat.zero_add, Nat.reduceAdd, factsR, atR, List.getElem?_cons_succ, List.getElem?_cons_zero, Rel.one, Rel.blk] at hd
       obtain ⟨rfl, rfl, rfl, rfl, rfl, rfl, rfl, rfl, rfl, rfl, rfl, rfl, rfl, rfl, rfl, rfl, rfl, rfl, rfl, rfl, rfl, rfl, -⟩ := hd
       simp only [putAll, Act.put, List.setIfInBounds_toArray, List.set_cons_succ, List.set_cons_zero]
       have hW := hxw.trans hI
       clear hI
       by_cases hdd : dg = dh
       ·have k2 : (dg == dh) = true := by simp [hdd]
        clear hdd
        go_wp2_with fail
        go_ret
        exact ⟨false, rfl, (fun h9 => by cases h9), hW⟩
       ·have k2 : (dg == dh) = false := by simp [hdd]
        have HK2 : Hid (∀ m, m < k + 1 → digH (nthR hs m) = dh → nthR hs m = h) := Lib.hid (fun m hm e => by
         rcases Nat.lt_or_ge m k with h1 | h1
         ·exact HK.out m h1 e
         ·obtain rfl : m = k := by omega
          rw [HGE.out, HDF.out] at e
          exact absurd e hdd)
        clear hdd
        go_wp2_with fail
        exact ⟨⟨k + 1, by omega, by go_num, HK2, Lib.hid hW⟩, by simp only [intOf]; omega⟩
     ·obtain rfl : i = k := by omega
      have HN : Hid ((∀ m, m < i + 1 → 4294967296 ≤ digH (nthR hs m)) ∧ (∀ m k, m < i + 1 → k < m → digH (nthR hs k) = digH (nthR hs m) → nthR hs k = nthR hs m)) := Lib.hid ⟨fun m hm => by
       rcases Nat.lt_or_ge m i with h1 | h1
       ·exact HV.out.1 m h1
       ·obtain rfl : m = i := by omega
        rw [HHE.out, HDE.out]; have := HSM.out; omega, fun m k hm hkm => by
       rcases Nat.lt_or_ge m i with h1 | h1
       ·exact HV.out.2 m k h1 hkm
       ·obtain rfl : m = i := by omega
        rw [HHE.out, HDE.out]; exact HK.out k hkm⟩
      go_wp2_with fail
      exact ⟨⟨i + 1, by omega, by go_num, HN, HX2⟩, by simp only [intOf]; omega⟩
  ·obtain rfl : n = i := by omega
   go_wp2_with fail
   go_ret
   refine ⟨true, rfl, fun _ => ?_, HX.out⟩
   unfold Dist
   rw [HL.out]
   refine ⟨HV.out.1, fun m k hm hk e => ?_⟩
   rcases Nat.lt_trichotomy m k with h1 | h1 | h1
   ·exact HV.out.2 k m hk h1 e
   ·rw [h1]
   ·exact (HV.out.2 m k hm h1 e.symm).symm
end Go.Proofs.YtacicanjmleikaaGreatDoor
