
import Derived.Test.YtacicanjmleikaaGreatDoorGr22
import Derived.Laws.StructEq
import Derived.Laws.Tables
import Derived.Laws.Cover2
/- A part of the proof. -/
namespace Go.Proofs.YtacicanjmleikaaGreatDoor
open Go.RowKit Go.Sort Go.Shelf Go.Maps
set_option linter.unusedSimpArgs false
set_option linter.unusedVariables false
set_option maxRecDepth 100000
structure QOk (lg : Int → List En) (B : Nat) (g h : Hd) (z : Nat) (W : World) (q : HpR) : Prop where
 g_ : q.h = g
 h_ : q.rc.h = h
 z_ : q.rc.i = z
 e_ : q.rc.e = nthR (lg h.o) z
 pth : Sl .u64 W q.rc.pa q.rc.pn q.rc.pc (pthQ lg q)
 grow : q.gc ≤ maxLen
 hi : HiQ B q
theorem QOk.ext {lg : Int → List En} {B : Nat} {g h : Hd} {z : Nat} {W W' : World} {q : HpR} (H : QOk lg B g h z W q) (hx : Ext W W') : QOk lg B g h z W' q := ⟨H.g_, H.h_, H.z_, H.e_, H.pth.ext hx, H.grow, H.hi⟩
def tupQ (q : HpR) : Value := .tuple #[.agg (Cel.enc q).toArray, .int .i64 0]
def ptrV (b : Nat) : Value := .pointer (some ⟨b, 0, none⟩)
theorem tupQ_inj {q q' : HpR} (h : tupQ q = tupQ q') : q.rc.pa = q'.rc.pa ∧ q.rc.pn = q'.rc.pn := by
 have h1 : (Cel.enc q) = (Cel.enc q') := by
  unfold tupQ at h
  simpa using h
 have h2 : ∀ l : List Value, l = Cel.enc q → l.getD 15 undef = .slice q.rc.pa q.rc.pn q.rc.pc := fun l e => by rw [e]; rfl
 have h3 := (h2 _ h1.symm).symm.trans (show (Cel.enc q').getD 15 undef = .slice q'.rc.pa q'.rc.pn q'.rc.pc from rfl)
 simp only [Value.slice.injEq] at h3
 exact ⟨h3.1, h3.2.1⟩
def RWt (lg : Int → List En) (B : Nat) (g h : Hd) (z : Nat) : RelL Ext := ⟨none, fun _ v W => ∃ q, v = tupQ q ∧ QOk lg B g h z W q, fun _ _ _ _ ⟨q, h1, h2⟩ hE => ⟨q, h1, h2.ext hE⟩⟩
def RSame (j : Nat) : RelL Ext := ⟨some j, fun u v _ => v = u ∧ ∃ A, u = .tuple #[.agg A, .int .i64 0], fun _ _ _ _ h _ => h⟩
def RPart (j : Nat) : RelL Ext := ⟨some j, fun u v _ => ∃ A y, u = .tuple #[.agg A, y] ∧ v = .agg A, fun _ _ _ _ h _ => h⟩
def RTz (B : Nat) : RelL Ext := ⟨none, fun _ v W => ∃ b C, v = ptrV b ∧ B ≤ b ∧ Bk W b 98 C ∧ C.size = 16, fun _ _ _ _ ⟨b, C, h1, h2, h3, h4⟩ hE => ⟨b, C, h1, h2, h3.ext hE, h4⟩⟩
def RHop (lg : Int → List En) (B : Nat) (g h : Hd) (z : Nat) (j : Nat) : RelL Ext := ⟨some j, fun u _ W => ∃ b q, u = ptrV b ∧ Bk W b 98 (Cel.enc q).toArray ∧ QOk lg B g h z W q, fun _ _ _ _ ⟨b, q, h1, h2, h3⟩ hE => ⟨b, q, h1, h2.ext hE, h3.ext hE⟩⟩
structure HI18 (V : World) (listed : Nat → Bool) (vs : List Value) (W : World) : Prop where
 e : Ext V W
 b21 : listed 21 = true → ∃ b, vs.getD 21 undef = ptrV b ∧ b < W.heap.size
 p17 : listed 17 = true → ∀ q, vs.getD 17 undef = tupQ q → ∀ p off, q.rc.pa = some ⟨p, off, none⟩ → 0 < q.rc.pn → p < W.heap.size
 d : listed 17 = true → listed 21 = true → ∀ q b, vs.getD 17 undef = tupQ q → vs.getD 21 undef = ptrV b → ∀ p off, q.rc.pa = some ⟨p, off, none⟩ → 0 < q.rc.pn → p ≠ b
section
variable {V : World} {listed : Nat → Bool} {vs : List Value} {W W' : World}
theorem getD_set_ne {l : List Value} {i j : Nat} {v : Value} (h : i ≠ j) : (l.set i v).getD j undef = l.getD j undef := by simp [List.getD_eq_getElem?_getD, List.getElem?_set_ne h]
theorem getD_set_eq {l : List Value} {i : Nat} {v : Value} (h : i < l.length) : (l.set i v).getD i undef = v := by simp [List.getD_eq_getElem?_getD, h]
theorem HI18.zero (h : Ext V W) : HI18 V (fun _ => false) vs W := ⟨h, (fun h9 => by cases h9), (fun h9 => by cases h9), (fun h9 => by cases h9)⟩
theorem HI18.other (h : HI18 V listed vs W) {i : Nat} {v : Value} (h17 : i ≠ 17) (h21 : i ≠ 21) (hx : Ext V W') (hsz : W.heap.size ≤ W'.heap.size) : HI18 V (updE listed i) (vs.set i v) W' := by
 have e17 : updE listed i 17 = listed 17 := by simp [updE, h17.symm]
 have e21 : updE listed i 21 = listed 21 := by simp [updE, h21.symm]
 refine ⟨hx, ?_, ?_, ?_⟩
 ·rw [e21, getD_set_ne h21]
  intro h9
  obtain ⟨b, h1, h2⟩ := h.b21 h9
  exact ⟨b, h1, Nat.lt_of_lt_of_le h2 hsz⟩
 ·rw [e17, getD_set_ne h17]
  exact fun h9 q hq p off h1 h2 => Nat.lt_of_lt_of_le (h.p17 h9 q hq p off h1 h2) hsz
 ·rw [e17, e21, getD_set_ne h17, getD_set_ne h21]
  exact h.d
theorem HI18.call (h : HI18 V listed vs W) {q : HpR} (hl : 17 < vs.length) (hx : Ext W W') (hf : ∀ p off, q.rc.pa = some ⟨p, off, none⟩ → 0 < q.rc.pn → W.heap.size ≤ p ∧ p < W'.heap.size) : HI18 V (updE listed 17) (vs.set 17 (tupQ q)) W' := by
 have e21 : updE listed 17 21 = listed 21 := by simp [updE]
 refine ⟨h.e.trans hx, ?_, ?_, ?_⟩
 ·rw [e21, getD_set_ne (by decide)]
  intro h9
  obtain ⟨b, h1, h2⟩ := h.b21 h9
  exact ⟨b, h1, Nat.lt_of_lt_of_le h2 hx.sz⟩
 ·rw [getD_set_eq hl]
  intro _ q' hq p off h1 h2
  obtain ⟨k1, k2⟩ := tupQ_inj hq
  exact (hf p off (k1.trans h1) (by omega)).2
 ·rw [e21, getD_set_eq hl, getD_set_ne (by decide)]
  intro _ h9 q' b hq hb p off h1 h2 e
  obtain ⟨k1, k2⟩ := tupQ_inj hq
  have h3 := (hf p off (k1.trans h1) (by omega)).1
  obtain ⟨b', h4, h5⟩ := h.b21 h9
  rw [h4] at hb
  simp only [ptrV, Value.pointer.injEq, Option.some.injEq, Addr.mk.injEq, and_true] at hb
  omega
theorem HI18.al (h : HI18 V listed vs W) (hl : 21 < vs.length) (ob : Obj) : HI18 V (updE listed 21) (vs.set 21 (ptrV W.heap.size)) (W.alloc ob) := by
 have e17 : updE listed 21 17 = listed 17 := by simp [updE]
 have hsz : (W.alloc ob).heap.size = W.heap.size + 1 := Array.size_push _
 refine ⟨h.e.alloc _, ?_, ?_, ?_⟩
 ·rw [getD_set_eq hl]
  exact fun _ => ⟨_, rfl, by omega⟩
 ·rw [e17, getD_set_ne (by decide)]
  exact fun h9 q hq p off h1 h2 => by have := h.p17 h9 q hq p off h1 h2; omega
 ·rw [e17, getD_set_eq hl, getD_set_ne (by decide)]
  intro h9 _ q b hq hb p off h1 h2 e
  have h3 := h.p17 h9 q hq p off h1 h2
  simp only [ptrV, Value.pointer.injEq, Option.some.injEq, Addr.mk.injEq, and_true] at hb
  omega
end
structure PrS (lg : Int → List En) (c : Ch) (i k : Nat) (W : World) (CL : List Value) (r1 r2 : RcR) (fa : Option Addr) (fn fc : Nat) (qs : List HpR) : Prop where
 is_ : Value.agg CL.toArray = prV r1 r2 fa fn fc
 len : CL.length = 22
 one : ∀ v ∈ CL, v.oneCell' = true
 h1 : r1.h = nthR c.hs 0 ∧ r1.i = i ∧ r1.e = nthR (lg (nthR c.hs 0).o) i
 h2 : r2.h = lastH c.hs ∧ r2.i = k ∧ r2.e = nthR (lg (lastH c.hs).o) k
 p1 : Sl .u64 W r1.pa r1.pn r1.pc (inclT (vals ((lg (nthR c.hs 0).o).take (nthR c.hs 0).s.toNat)) i)
 p2 : Sl .u64 W r2.pa r2.pn r2.pc (inclT (vals ((lg (lastH c.hs).o).take (lastH c.hs).s.toNat)) k)
 num : fn + 1 = c.hs.length
 row : Rw W fa fn fc qs
 hop : ∀ m, m < fn → QOk lg 0 (nthR c.hs m) (nthR c.hs (m + 1)) (hopAt lg (nthR c.hs m) (nthR c.hs (m + 1))).toNat W (nthR qs m)
open Go.RowKit Go.Sort Go.Shelf Go.Maps
structure LogOk (lg : Int → List En) (ps : List Int) (h : Hd) : Prop where
 sg : Sgn ps h
 len : h.s.toNat ≤ (lg h.o).length
 max : (lg h.o).length ≤ 4096
 root : rootT (vals ((lg h.o).take h.s.toNat)) = h.r
 ents : ∀ x, x < (lg h.o).length → (nthR (lg h.o) x).Ok ∧ ivOk (nthR (lg h.o) x).lo (nthR (lg h.o) x).hi = true
theorem inR_at {lg : Int → List En} {ps : List Int} {h : Hd} (H : LogOk lg ps h) {i : Nat} (hi : (i : Int) < h.s) : inR h i (nthR (lg h.o) i) (inclT (vals ((lg h.o).take h.s.toNat)) i) = true := by
 have hs := H.sg.ok.s
 have hl : (vals ((lg h.o).take h.s.toNat)).length = h.s.toNat := by rw [vals_len, List.length_take]; have := H.len; omega
 have h1 := incl_right (l := vals ((lg h.o).take h.s.toNat)) (i := i) (by rw [hl]; omega) (by rw [hl]; have := H.len; have := H.max; omega)
 rw [hl, H.root] at h1
 have e : (vals ((lg h.o).take h.s.toNat)).getD i 0 = valE (nthR (lg h.o) i) := by
  have hi2 : i < ((lg h.o).take h.s.toNat).length := by rw [List.length_take]; have := H.len; omega
  rw [List.getD_eq_getElem?_getD, vals, List.getElem?_map, ← nthR_take (show i < h.s.toNat by omega), nthR_get hi2, List.getElem?_eq_getElem hi2]
  simp
 rw [e] at h1
 exact h1
theorem path_len {lg : Int → List En} {ps : List Int} {h : Hd} (H : LogOk lg ps h) (i : Nat) : (inclT (vals ((lg h.o).take h.s.toNat)) i).length ≤ 12 :=
 incl_len 12 _ i (by rw [vals_len, List.length_take]; have := H.max; omega)
theorem rc_of {w : World} {ka : Option Addr} {kn kc : Nat} {ps : List Int} (K : Sl .i64 w ka kn kc ps) (hm : kn ≤ 16) (hk : Keys ps) {lg : Int → List En} {h : Hd} (H : LogOk lg ps h) {i : Nat} (hi : (i : Int) < h.s) {pa : Option Addr} {pn pc : Nat}
  (p : Sl .u64 w pa pn pc (inclT (vals ((lg h.o).take h.s.toNat)) i)) : RcOk w ka kn kc ps h i (nthR (lg h.o) i) pa pn pc (inclT (vals ((lg h.o).take h.s.toNat)) i) := by
 have hl : i < (lg h.o).length := by have := H.len; omega
 exact ⟨K, hm, hk, H.sg, hi, (H.ents i hl).1, (H.ents i hl).2, p, by rw [← p.hlen]; have := path_len H i; omega, inR_at H hi⟩
theorem firstE_at {es : List En} {d : Int} {k : Nat} (h : firstE es d = k) : k < es.length ∧ (nthR es k).d = d := by
 unfold firstE at h
 cases hf : es.findIdx? (fun e => decide (e.d = d)) with
 | none => rw [hf] at h; simp only at h; omega
 | some i =>
  rw [hf] at h
  simp only at h
  obtain rfl : i = k := by omega
  obtain ⟨h1, h2, _⟩ := List.findIdx?_eq_some_iff_getElem.1 hf
  exact ⟨h1, by rw [nthR_get h1]; simpa using h2⟩
theorem hop_at {lg : Int → List En} {ps : List Int} {g h : Hd} (H : LogOk lg ps h) (h0 : 0 ≤ hopAt lg g h) : ((hopAt lg g h).toNat : Int) < h.s ∧ (nthR (lg h.o) (hopAt lg g h).toNat).d = digH g := by
 obtain ⟨k, hk⟩ : ∃ k : Nat, hopAt lg g h = k := ⟨(hopAt lg g h).toNat, by omega⟩
 obtain ⟨h1, h2⟩ := firstE_at (show firstE ((lg h.o).take h.s.toNat) (digH g) = (k : Int) from hk)
 have hs := H.sg.ok.s
 rw [hk, Int.toNat_natCast]
 rw [List.length_take] at h1
 rw [nthR_take (by omega)] at h2
 exact ⟨by omega, h2⟩
theorem check_found {w : World} {ka : Option Addr} {kn kc : Nat} {ps : List Int} (K : Sl .i64 w ka kn kc ps) (hm : kn ≤ 16) (hkeys : Keys ps) {lg : Int → List En} {hs : List Hd} {from_ : Int} {i k : Nat} {c : Ch} (HC : ChOk lg hs from_ i c)
  (h4 : c.hs.length ≤ 4) (hks : (k : Int) < (lastH c.hs).s) (hat : c.at_ < k) (HL : ∀ h, h ∈ hs → LogOk lg ps h) {CL : List Value} {r1 r2 : RcR} {fa : Option Addr} {fn fc : Nat} {qs : List HpR} (P : PrS lg c i k w CL r1 r2 fa fn fc qs) (ht : TB w) :
  Calls Tryz.prog 14 #[.slice ka kn kc, .agg CL.toArray] w fun e9 w' => e9 = .returned (.tuple #[.bool true, .int .i64 0]) ∧ Ext w w' := by
 rw [P.is_]
 have hnum := P.num
 have hlen := HC.len
 have hlast : lastH c.hs = nthR c.hs fn := by unfold lastH; rw [show c.hs.length - 1 = fn by omega]
 have hmem : ∀ m, m < c.hs.length → LogOk lg ps (nthR c.hs m) := fun m h => HL _ (HC.mem m h)
 obtain ⟨a1, a2, a3⟩ := P.h1
 obtain ⟨b1, b2, b3⟩ := P.h2
 obtain ⟨rh, ri, re, rpa, rpn, rpc⟩ := r1
 obtain ⟨sh, si, se, spa, spn, spc⟩ := r2
 simp only at a1 a2 a3 b1 b2 b3
 subst a1 a2 a3 b1 b2 b3
 have hst : ∀ m, m ≤ fn → (stR ⟨nthR c.hs 0, ri, nthR (lg (nthR c.hs 0).o) ri, rpa, rpn, rpc⟩ qs m).h = nthR c.hs m := fun m h => by
  cases m with
  | zero => rfl
  | succ m => exact (P.hop m (by omega)).h_
 have h9 := hmem fn (by omega)
 rw [← hlast] at h9
 refine pcheck_yes ⟨⟨_, rc_of K hm hkeys (hmem 0 (by omega)) HC.fst.2 P.p1⟩, ⟨_, rc_of K hm hkeys h9 hks P.p2⟩, P.row, by omega, fun m h => ⟨?_, ?_⟩, ?_, ?_⟩ ht
 ·rw [(P.hop m h).g_, hst m (by omega)]
 ·have q := P.hop m h
  obtain ⟨n1, n2⟩ := HC.nxt m (by omega)
  obtain ⟨p1, p2⟩ := hop_at (hmem (m + 1) (by omega)) n1
  have hl := (hmem (m + 1) (by omega)).len
  refine ⟨pthQ lg (nthR qs m), ?_⟩
  have hp := q.pth
  have hp2 := q.pth
  unfold pthQ at hp2
  rw [q.h_, q.z_] at hp2
  have hrc := rc_of K hm hkeys (hmem (m + 1) (by omega)) p1 hp2
  refine ⟨K, hm, hkeys, ?_, ?_, ?_, ⟨rfl, Nat.zero_le _, q.grow, fun i hi => absurd hi (by omega), by simp⟩, ?_, ?_, ?_, hp, hrc.short, ?_, ?_⟩
  ·rw [q.g_]; exact (hmem m (by omega)).sg
  ·rw [q.h_]; exact (hmem (m + 1) (by omega)).sg
  ·rw [q.g_, q.h_]; exact fun e => n2 e.symm
  ·rw [q.h_, q.z_]; exact p1
  ·rw [q.e_]; exact hrc.ok
  ·rw [q.e_]; exact hrc.iv
  ·unfold pthQ
   rw [q.h_, q.z_, q.e_]
   exact hrc.inn
  ·rw [q.e_, q.g_]; exact p2
 ·rw [hst fn (Nat.le_refl _)]; exact hlast.symm
 ·show (stR _ qs fn).i < si
  cases hf : fn with
  | zero =>
   have := HC.at1 (by omega)
   simp only [stR]
   omega
  | succ m =>
   have h2 := HC.at2 m (by omega)
   have q := P.hop m (by omega)
   have h3 := (HC.nxt m (by omega)).1
   simp only [stR]
   rw [q.z_]
   omega
open Go.RowKit Go.Sort Go.Shelf Go.Maps
theorem srch_found {lg : Int → List En} {hs : List Hd} {from_ i : Int} {f : Ch → Bool} : ∀ (n r : Nat), (∃ c, srch lg hs f n (lev lg hs from_ i r) = some c) ↔ ∃ r' c, r ≤ r' ∧ r' < r + n ∧ c ∈ lev lg hs from_ i r' ∧ f c = true
 | 0, r => ⟨(fun ⟨c, h⟩ => by cases h), (fun ⟨r', _, h1, h2, _⟩ => by omega)⟩
 | n + 1, r => by
  refine ⟨fun ⟨c, h⟩ => ?_, fun ⟨r', c, h1, h2, h3, h4⟩ => ?_⟩
  ·obtain ⟨r', h1, h2, h3, h4⟩ := srch_mem (n + 1) r h
   exact ⟨r', c, h1, h2, h3, h4⟩
  ·unfold srch
   cases hf : (lev lg hs from_ i r).find? f with
   | some d => exact ⟨d, rfl⟩
   | none =>
    refine (srch_found n (r + 1)).2 ⟨r', c, ?_, by omega, h3, h4⟩
    rcases Nat.lt_or_ge r r' with h5 | h5
    ·exact h5
    ·obtain rfl : r' = r := by omega
     exact absurd h4 (by simpa using List.find?_eq_none.1 hf c h3)
structure Grown (lg lg' : Int → List En) (hs hs' : List Hd) : Prop where
 sub : ∀ h, h ∈ hs → h ∈ hs'
 take_ : ∀ h, h ∈ hs → (lg' h.o).take h.s.toNat = (lg h.o).take h.s.toNat
theorem lev_grown {lg lg' : Int → List En} {hs hs' : List Hd} (H : Grown lg lg' hs hs') {from_ i : Int} : ∀ (r : Nat) (c : Ch), c ∈ lev lg hs from_ i r → c ∈ lev lg' hs' from_ i r
 | 0, c, h => by
  obtain ⟨g, hg, rfl⟩ := List.mem_map.1 h
  obtain ⟨h1, h2⟩ := List.mem_filter.1 hg
  exact List.mem_map.2 ⟨g, List.mem_filter.2 ⟨H.sub g h1, h2⟩, rfl⟩
 | r + 1, c, h => by
  obtain ⟨d, hd, hc⟩ := List.mem_flatMap.1 h
  refine List.mem_flatMap.2 ⟨d, lev_grown H r d hd, ?_⟩
  obtain ⟨g, hg, rfl, h1, h2⟩ := lonL_mem hc
  have e : logAt lg' d.hs g = logAt lg d.hs g := by unfold logAt; rw [H.take_ g hg]
  refine List.mem_flatMap.2 ⟨g, H.sub g hg, ?_⟩
  unfold lonS
  rw [if_neg (by rw [h1]; decide), e, if_pos h2]
  exact List.mem_singleton.2 rfl
theorem found_grown {lg lg' : Int → List En} {hs hs' : List Hd} (H : Grown lg lg' hs hs') {from_ i : Int} {f : Ch → Bool} (h : ∃ c, srch lg hs f 4 (levA hs from_ i) = some c) : ∃ c, srch lg' hs' f 4 (levA hs' from_ i) = some c := by
 obtain ⟨r, c, h1, h2, h3, h4⟩ := (srch_found 4 0).1 h
 exact (srch_found 4 0).2 ⟨r, c, h1, h2, lev_grown H r c h3, h4⟩
open Go.RowKit Go.Sort Go.Shelf Go.Maps
theorem eqHd (g h : Hd) (w : World) : (Op.equalIn 10000 34 (.agg #[.int .i64 g.o, .int .i64 g.s, .int .u64 g.r, .int .i64 g.C, .int .i64 g.S]) (.agg #[.int .i64 h.o, .int .i64 h.s, .int .u64 h.r, .int .i64 h.C, .int .i64 h.S])).run Tryz.prog w = .ok (decide (g = h)) w := by
 have u3 := Tryz.underlying3
 have a3 := Tryz.isAgg3
 have z3 := Tryz.sizeOf3
 have u4 := Tryz.underlying25
 have a4 := Tryz.isAgg25
 have z4 := Tryz.sizeOf25
 have u6 := Tryz.isAgg32
 have z6 := Tryz.sizeOf32
 have hS : Tryz.prog.underlying 34 = some (.struct (Tryz.prog.fieldsOf 34)) := by kernel_rfl
 have hp : Tryz.prog.stoodInHeld 34 = false := by kernel_rfl
 have hS2 : Tryz.prog.underlying 32 = some (.struct (Tryz.prog.fieldsOf 32)) := by kernel_rfl
 have hp2 : Tryz.prog.stoodInHeld 32 = false := by kernel_rfl
 have e6 : ∀ (x y x' y' : Int) (w : World), (Op.equalIn 9999 32 (.agg #[.int .i64 x, .int .i64 y]) (.agg #[.int .i64 x', .int .i64 y'])).run Tryz.prog w = .ok (decide (x = x' ∧ y = y')) w := by
  intro x y x' y' w
  rw [show (9999 : Nat) = 9998 + 1 from rfl, run_equalIn_agg w 9998 32 _ _ hS2 hp2]
  simp only [Program.fieldsOf, Tryz.underlying32]
  go_simp
  by_cases h1 : x = x' <;> by_cases h2 : y = y' <;> simp [h1, h2]
 obtain ⟨g0, g1, g2, g3, g4⟩ := g
 obtain ⟨h0, h1, h2, h3, h4⟩ := h
 rw [show (10000 : Nat) = 9999 + 1 from rfl, run_equalIn_agg w 9999 34 _ _ hS hp]
 simp only [Program.fieldsOf, Tryz.underlying34]
 go_simp
 by_cases q0 : g0 = h0
 ·by_cases q1 : g1 = h1
  ·by_cases q2 : g2 = h2
   ·by_cases q3 : g3 = h3 <;> by_cases q4 : g4 = h4 <;> simp [q0, q1, q2, q3, q4, e6]
   ·simp [q0, q1, q2]
  ·simp [q0, q1]
 ·simp [q0]
open Go.RowKit Go.Sort Go.Shelf Go.Maps
structure Lg where
 do_ : Nat
 who : Nat
 which : Nat
 wait : Nat
 left : Nat
 right : Nat
 doc : Nat
structure Lg.Ok (x : Lg) : Prop where
 do_ : x.do_ ≤ 255
 who : x.who ≤ 255
 which : x.which ≤ 255
 wait : x.wait ≤ 65535
 left : x.left ≤ 65535
 right : x.right ≤ 65535
 doc : x.doc ≤ 4294967295
structure Ps where
 now : Int
 lg : Nat → List En
 tm : Nat → List Int
 hs : List Hd
 st : List Int
def secK (key k : Nat) : Nat := 1 + (key + k) % 18446744073709551616 % 1073741788
theorem secK_ok (key k : Nat) : Sec (secK key k) := ⟨by unfold secK; omega, by unfold secK; omega⟩
def updN {α : Type} (f : Nat → α) (k : Nat) (v : α) : Nat → α := fun j => if j = k then v else f j
theorem updN_same {α : Type} (f : Nat → α) (k : Nat) (v : α) : updN f k v k = v := if_pos rfl
theorem updN_ne {α : Type} (f : Nat → α) {k j : Nat} (v : α) (h : j ≠ k) : updN f k v j = f j := if_neg h
def lastE (es : List En) : En := nthR es (es.length - 1)
def loN (es : List En) (now : Int) (x : Lg) : Int := if es.length = 0 then max 0 (now - x.left) else max (max 0 (now - x.left)) (lastE es).lo
def newE (s : Ps) (x : Lg) : En := ⟨if x.do_ % 4 = 2 then digH (nthR s.hs (x.which % s.hs.length)) else x.doc, loN (s.lg (x.who % 3)) (s.now + 1 + x.wait) x, s.now + 1 + x.wait + x.right⟩
def ps0 : Ps := ⟨0, fun _ => [], fun _ => [], [], []⟩
def stepP (key i : Nat) (s : Ps) (x : Lg) : Ps :=
 let k := x.who % 3
 let now := s.now + 1 + x.wait
 if x.do_ % 4 = 1 then
  if (s.lg k).length = 0 ∨ s.hs.length = 12 then ⟨now, s.lg, s.tm, s.hs, s.st⟩
  else ⟨now, s.lg, s.tm, s.hs ++ [sgHd ((k : Int) + 1) (s.lg k) (s.lg k).length (secK key k) (secK key (50 + i))], s.st ++ [now]⟩
 else if x.do_ % 4 = 2 ∧ s.hs.length = 0 then ⟨now, s.lg, s.tm, s.hs, s.st⟩
 else ⟨now, updN s.lg k (s.lg k ++ [newE s x]), updN s.tm k (s.tm k ++ [now]), s.hs, s.st⟩
def runP (key : Nat) (l : Nat → Lg) : Nat → Ps
 | 0 => ps0
 | n + 1 => stepP key n (runP key l n) (l n)
structure PsOk (key : Nat) (s : Ps) (n : Nat) : Prop where
 now : 0 ≤ s.now ∧ s.now ≤ n * 65536
 len : ∀ k, (s.tm k).length = (s.lg k).length ∧ (s.lg k).length ≤ n
 hlen : s.hs.length ≤ 12 ∧ s.st.length = s.hs.length
 ent : ∀ k x, x < (s.lg k).length → 0 ≤ (nthR (s.lg k) x).lo ∧ (nthR (s.lg k) x).lo ≤ nth (s.tm k) x ∧ nth (s.tm k) x ≤ (nthR (s.lg k) x).hi ∧ (nthR (s.lg k) x).hi ≤ n * 65536 + 65535 ∧ nth (s.tm k) x ≤ s.now
 lo : ∀ k x, x + 1 < (s.lg k).length → (nthR (s.lg k) x).lo ≤ (nthR (s.lg k) (x + 1)).lo
 asc : ∀ k x y, x < y → y < (s.lg k).length → nth (s.tm k) x < nth (s.tm k) y
 head : ∀ m, m < s.hs.length → ∃ k q once : Nat, k < 3 ∧ nthR s.hs m = sgHd ((k : Int) + 1) (s.lg k) q (secK key k) once ∧ Sec once ∧ 1 ≤ q ∧ q ≤ (s.lg k).length ∧ (∀ x, x < q → nth (s.tm k) x < nth s.st m) ∧ nth s.st m ≤ s.now
 doc : ∀ k x, x < (s.lg k).length → (Lit.int .u64 (nthR (s.lg k) x).d).wf = true ∧ ((nthR (s.lg k) x).d < 4294967296 ∨ ∃ m, m < s.hs.length ∧ (nthR (s.lg k) x).d = digH (nthR s.hs m) ∧ nth s.st m < nth (s.tm k) x)
 few : ∀ k, 3 ≤ k → s.lg k = []
theorem ps0_ok (key : Nat) : PsOk key ps0 0 :=
 ⟨by show (0 : Int) ≤ 0 ∧ (0 : Int) ≤ _; omega, fun k => ⟨rfl, Nat.le_refl _⟩, by decide, fun k x h => absurd h (Nat.not_lt_zero _), fun k x h => absurd h (Nat.not_lt_zero _), fun k x y _ h => absurd h (Nat.not_lt_zero _), fun m h => absurd h (Nat.not_lt_zero _), fun k x h => absurd h (Nat.not_lt_zero _), fun _ _ => rfl⟩
theorem nth_l {xs ys : List Int} {i : Nat} (h : i < xs.length) : nth (xs ++ ys) i = nth xs i := by simp [nth, List.getD_eq_getElem?_getD, List.getElem?_append_left h]
theorem nth_e {xs : List Int} {y : Int} {i : Nat} (h : i = xs.length) : nth (xs ++ [y]) i = y := by subst h; simp [nth, List.getD_eq_getElem?_getD]
theorem nthR_e {α : Type} [Cel α] {xs : List α} {y : α} {i : Nat} (h : i = xs.length) : nthR (xs ++ [y]) i = y := by subst h; simp [nthR, List.getD_eq_getElem?_getD]
theorem sgHd_grow {id : Int} {es : List En} {e : En} {q key once : Nat} (h : q ≤ es.length) : sgHd id (es ++ [e]) q key once = sgHd id es q key once := by
 unfold sgHd
 rw [List.take_append_of_le_length h]
theorem PsOk.wait {key : Nat} {s : Ps} {n : Nat} (H : PsOk key s n) {t : Int} (h1 : s.now ≤ t) (h2 : t ≤ s.now + 65536) : PsOk key ⟨t, s.lg, s.tm, s.hs, s.st⟩ (n + 1) := by
 have hn := H.now
 refine ⟨?_, fun k => ⟨(H.len k).1, ?_⟩, H.hlen, fun k x hx => ?_, H.lo, H.asc, fun m hm => ?_, H.doc, H.few⟩
 ·show 0 ≤ t ∧ t ≤ ((n + 1 : Nat) : Int) * 65536
  omega
 ·have := (H.len k).2
  show (s.lg k).length ≤ n + 1
  omega
 ·obtain ⟨a1, a2, a3, a4, a5⟩ := H.ent k x hx
  refine ⟨a1, a2, a3, ?_, ?_⟩
  ·show (nthR (s.lg k) x).hi ≤ ((n + 1 : Nat) : Int) * 65536 + 65535
   omega
  ·show nth (s.tm k) x ≤ t
   omega
 ·obtain ⟨k, q, once, b0, b1, b2, b3, b4, b5, b6⟩ := H.head m hm
  refine ⟨k, q, once, b0, b1, b2, b3, b4, b5, ?_⟩
  show nth s.st m ≤ t
  omega
theorem PsOk.sign {key : Nat} {s : Ps} {n : Nat} (H : PsOk key s n) {k once : Nat} (hk : k < 3) (ho : Sec once) (h0 : 0 < (s.lg k).length) (h12 : s.hs.length ≠ 12) {t : Int} (h1 : s.now < t) (h2 : t ≤ s.now + 65536) :
  PsOk key ⟨t, s.lg, s.tm, s.hs ++ [sgHd ((k : Int) + 1) (s.lg k) (s.lg k).length (secK key k) once], s.st ++ [t]⟩ (n + 1) := by
 have W := H.wait (t := t) (by omega) h2
 have hl := H.hlen
 refine ⟨W.now, W.len, ?_, W.ent, W.lo, W.asc, fun m hm => ?_, fun k' x hx => ?_, W.few⟩
 ·show (s.hs ++ _).length ≤ 12 ∧ (s.st ++ _).length = (s.hs ++ _).length
  simp only [List.length_append, List.length_singleton]
  omega
 ·simp only [List.length_append, List.length_singleton] at hm
  rcases Nat.lt_or_ge m s.hs.length with h | h
  ·obtain ⟨k', q, once', b0, b1, b2, b3, b4, b5, b6⟩ := W.head m h
   refine ⟨k', q, once', b0, ?_, b2, b3, b4, fun x hx => ?_, ?_⟩
   ·show nthR (s.hs ++ _) m = _
    rw [nthR_app_left h]; exact b1
   ·show _ < nth (s.st ++ _) m
    rw [nth_l (by omega)]; exact b5 x hx
   ·show nth (s.st ++ _) m ≤ t
    rw [nth_l (by omega)]; exact b6
  ·have hme : m = s.hs.length := by omega
   refine ⟨k, (s.lg k).length, once, hk, ?_, ho, h0, Nat.le_refl _, fun x hx => ?_, ?_⟩
   ·show nthR (s.hs ++ _) m = _
    rw [nthR_e hme]
   ·show _ < nth (s.st ++ _) m
    rw [nth_e (by omega)]
    have := (H.ent k x hx).2.2.2.2
    show nth (s.tm k) x < t
    omega
   ·show nth (s.st ++ _) m ≤ t
    rw [nth_e (by omega)]
    exact Int.le_refl t
 ·obtain ⟨d1, d2⟩ := W.doc k' x hx
  refine ⟨d1, ?_⟩
  rcases d2 with d2 | ⟨m, e1, e2, e3⟩
  ·exact .inl d2
  ·have e4 : m < s.hs.length := e1
   refine .inr ⟨m, ?_, ?_, ?_⟩
   ·show m < (s.hs ++ _).length
    simp only [List.length_append, List.length_singleton]
    omega
   ·show _ = digH (nthR (s.hs ++ _) m)
    rw [nthR_app_left e4]; exact e2
   ·show nth (s.st ++ _) m < _
    rw [nth_l (by omega)]; exact e3
theorem PsOk.log {key : Nat} {s : Ps} {n : Nat} (H : PsOk key s n) {k : Nat} (hk : k < 3) {t : Int} (h1 : s.now < t) (h2 : t ≤ s.now + 65536) {e : En} (e0 : 0 ≤ e.lo) (e1 : e.lo ≤ t) (e2 : t ≤ e.hi) (e3 : e.hi ≤ t + 65535)
  (e4 : 0 < (s.lg k).length → (lastE (s.lg k)).lo ≤ e.lo) (e5 : (Lit.int .u64 e.d).wf = true) (e6 : e.d < 4294967296 ∨ ∃ m, m < s.hs.length ∧ e.d = digH (nthR s.hs m)) :
  PsOk key ⟨t, updN s.lg k (s.lg k ++ [e]), updN s.tm k (s.tm k ++ [t]), s.hs, s.st⟩ (n + 1) := by
 have W := H.wait (t := t) (by omega) h2
 have hlk := H.len k
 have hn := W.now
 have tl : ∀ j x, x < (s.lg j).length → nth (updN s.tm k (s.tm k ++ [t]) j) x = nth (s.tm j) x := fun j x hx => by
  by_cases hj : j = k
  ·subst hj; rw [updN_same, nth_l (by omega)]
  ·rw [updN_ne _ _ hj]
 have gl : ∀ j x, x < (s.lg j).length → nthR (updN s.lg k (s.lg k ++ [e]) j) x = nthR (s.lg j) x := fun j x hx => by
  by_cases hj : j = k
  ·subst hj; rw [updN_same, nthR_app_left hx]
  ·rw [updN_ne _ _ hj]
 have split : ∀ j x, x < (updN s.lg k (s.lg k ++ [e]) j).length → x < (s.lg j).length ∨ (j = k ∧ x = (s.lg k).length) := fun j x hx => by
  by_cases hj : j = k
  ·subst hj
   rw [updN_same, List.length_append, List.length_singleton] at hx
   omega
  ·rw [updN_ne _ _ hj] at hx; exact .inl hx
 have gE : nthR (updN s.lg k (s.lg k ++ [e]) k) (s.lg k).length = e := by rw [updN_same, nthR_e rfl]
 have tE : nth (updN s.tm k (s.tm k ++ [t]) k) (s.lg k).length = t := by rw [updN_same, nth_e hlk.1.symm]
 refine ⟨hn, fun j => ?_, H.hlen, fun j x hx => ?_, fun j x hx => ?_, fun j x y hxy hy => ?_, fun m hm => ?_, fun j x hx => ?_, fun j hj => ?_⟩
 ·show (updN s.tm k _ j).length = (updN s.lg k _ j).length ∧ (updN s.lg k _ j).length ≤ n + 1
  by_cases hj : j = k
  ·subst hj
   rw [updN_same, updN_same, List.length_append, List.length_append, List.length_singleton, List.length_singleton]
   omega
  ·rw [updN_ne _ _ hj, updN_ne _ _ hj]
   exact W.len j
 ·rcases split j x hx with h | ⟨rfl, rfl⟩
  ·show 0 ≤ (nthR (updN s.lg k _ j) x).lo ∧ (nthR (updN s.lg k _ j) x).lo ≤ nth (updN s.tm k _ j) x ∧ nth (updN s.tm k _ j) x ≤ (nthR (updN s.lg k _ j) x).hi ∧ _ ∧ nth (updN s.tm k _ j) x ≤ t
   rw [gl j x h, tl j x h]
   exact W.ent j x h
  ·show 0 ≤ (nthR (updN s.lg j _ j) _).lo ∧ (nthR (updN s.lg j _ j) _).lo ≤ nth (updN s.tm j _ j) _ ∧ nth (updN s.tm j _ j) _ ≤ (nthR (updN s.lg j _ j) _).hi ∧ (nthR (updN s.lg j _ j) _).hi ≤ ((n + 1 : Nat) : Int) * 65536 + 65535 ∧ nth (updN s.tm j _ j) _ ≤ t
   rw [gE, tE]
   have h9 : t ≤ ((n + 1 : Nat) : Int) * 65536 := hn.2
   omega
 ·show (nthR (updN s.lg k _ j) x).lo ≤ (nthR (updN s.lg k _ j) (x + 1)).lo
  rcases split j (x + 1) hx with h | ⟨rfl, hx2⟩
  ·rw [gl j x (by omega), gl j (x + 1) h]
   exact H.lo j x h
  ·rw [hx2, gE, gl j x (by omega)]
   have h9 := e4 (by omega)
   unfold lastE at h9
   rw [show (s.lg j).length - 1 = x by omega] at h9
   exact h9
 ·show nth (updN s.tm k _ j) x < nth (updN s.tm k _ j) y
  rcases split j y hy with h | ⟨rfl, rfl⟩
  ·rw [tl j x (by omega), tl j y h]
   exact H.asc j x y hxy h
  ·rw [tE, tl j x hxy]
   have := (H.ent j x hxy).2.2.2.2
   omega
 ·obtain ⟨k', q, once', b0, b1, b2, b3, b4, b5, b6⟩ := W.head m hm
  have b4' : q ≤ (s.lg k').length := b4
  refine ⟨k', q, once', b0, ?_, b2, b3, ?_, fun x hx => ?_, b6⟩
  ·show nthR s.hs m = sgHd _ (updN s.lg k _ k') q _ _
   by_cases hj : k' = k
   ·subst hj; rw [updN_same, sgHd_grow b4']; exact b1
   ·rw [updN_ne _ _ hj]; exact b1
  ·show q ≤ (updN s.lg k _ k').length
   by_cases hj : k' = k
   ·subst hj; rw [updN_same, List.length_append]; omega
   ·rw [updN_ne _ _ hj]; exact b4
  ·show nth (updN s.tm k _ k') x < _
   rw [tl k' x (by omega)]
   exact b5 x hx
 ·show (Lit.int .u64 (nthR (updN s.lg k _ j) x).d).wf = true ∧ ((nthR (updN s.lg k _ j) x).d < 4294967296 ∨ ∃ m, m < s.hs.length ∧ (nthR (updN s.lg k _ j) x).d = digH (nthR s.hs m) ∧ nth s.st m < nth (updN s.tm k _ j) x)
  rcases split j x hx with h | ⟨rfl, rfl⟩
  ·rw [gl j x h, tl j x h]
   exact H.doc j x h
  ·rw [gE, tE]
   refine ⟨e5, ?_⟩
   rcases e6 with h | ⟨m, h3, h4⟩
   ·exact .inl h
   ·obtain ⟨_, _, _, _, _, _, _, _, _, b6⟩ := H.head m h3
    exact .inr ⟨m, h3, h4, by omega⟩
 ·show updN s.lg k _ j = []
  rw [updN_ne _ _ (by omega)]
  exact H.few j hj
theorem step_ok {key i : Nat} {s : Ps} {n : Nat} (H : PsOk key s n) {x : Lg} (hx : x.Ok) : PsOk key (stepP key i s x) (n + 1) := by
 have hw := hx.wait
 have hl := hx.left
 have hr := hx.right
 have hd := hx.doc
 have hn := H.now
 have hk : x.who % 3 < 3 := Nat.mod_lt _ (by omega)
 unfold stepP
 simp only
 split
 ·split
  ·exact H.wait (by omega) (by omega)
  ·rename_i h1 h2
   exact H.sign hk (secK_ok _ _) (by omega) (by omega) (by omega) (by omega)
 ·split
  ·exact H.wait (by omega) (by omega)
  ·rename_i h1 h2
   have hlast : 0 < (s.lg (x.who % 3)).length → 0 ≤ (lastE (s.lg (x.who % 3))).lo ∧ (lastE (s.lg (x.who % 3))).lo ≤ s.now := fun h0 => by
    obtain ⟨a1, a2, a3, a4, a5⟩ := H.ent (x.who % 3) ((s.lg (x.who % 3)).length - 1) (by omega)
    unfold lastE
    omega
   refine H.log hk (by omega) (by omega) ?_ ?_ ?_ ?_ (fun h0 => ?_) ?_ ?_
   ·show 0 ≤ loN _ _ _
    unfold loN
    split <;> omega
   ·show loN _ _ _ ≤ _
    unfold loN
    split
    ·omega
    ·have := hlast (by omega); omega
   ·show _ ≤ s.now + 1 + (x.wait : Int) + x.right
    omega
   ·show s.now + 1 + (x.wait : Int) + x.right ≤ _
    omega
   ·show _ ≤ loN _ _ _
    unfold loN
    rw [if_neg (by omega)]
    omega
   ·show (Lit.int .u64 (newE s x).d).wf = true
    unfold newE
    simp only
    split
    ·have := dig_rng (nthR s.hs (x.which % s.hs.length))
     simp [Lit.wf, IntKind.min, IntKind.max, IntKind.bits, IntKind.signed]; omega
    ·simp [Lit.wf, IntKind.min, IntKind.max, IntKind.bits, IntKind.signed]; omega
   ·show (newE s x).d < 4294967296 ∨ ∃ m, m < s.hs.length ∧ (newE s x).d = digH (nthR s.hs m)
    unfold newE
    simp only
    split
    ·rename_i h3
     exact .inr ⟨_, Nat.mod_lt _ (by omega), rfl⟩
    ·exact .inl (by omega)
theorem run_ok (key : Nat) (l : Nat → Lg) (hl : ∀ i, (l i).Ok) : ∀ n, PsOk key (runP key l n) n
 | 0 => ps0_ok key
 | n + 1 => step_ok (run_ok key l hl n) (hl n)
open Go.RowKit Go.Sort Go.Shelf Go.Maps
def lgF (s : Ps) (o : Int) : List En := if 1 ≤ o ∧ o ≤ 3 then s.lg (o - 1).toNat else []
def psK (key : Nat) : List Int := [pubO (secK key 0), pubO (secK key 1), pubO (secK key 2)]
theorem psK_keys (key : Nat) : Keys (psK key) := fun x hx => by
 simp only [psK, List.mem_cons, List.not_mem_nil, or_false] at hx
 rcases hx with rfl | rfl | rfl <;> exact pubO_ok (secK_ok _ _)
theorem psK_at (key : Nat) {k : Nat} (hk : k < 3) : nth (psK key) k = pubO (secK key k) := by
 rcases k with _ | _ | _ | k
 ·rfl
 ·rfl
 ·rfl
 ·omega
theorem lgF_at (s : Ps) {k : Nat} (hk : k < 3) : lgF s ((k : Int) + 1) = s.lg k := by
 unfold lgF
 rw [if_pos (by omega), show (((k : Int) + 1 - 1).toNat) = k by omega]
theorem lgO_F {os : List OfR} {s : Ps} (hid : ∀ j, j < 3 → (nthR os j).id = (j : Int) + 1) : lgO os s.lg 3 = lgF s := by
 funext o
 by_cases ho : 1 ≤ o ∧ o ≤ 3
 ·obtain ⟨k, hk, rfl⟩ : ∃ k : Nat, k < 3 ∧ o = (k : Int) + 1 := ⟨(o - 1).toNat, by omega, by omega⟩
  rw [lgF_at s hk]
  exact lgO_at (fun j hj i hi => by rw [hid i (by omega), hid j hj]; omega) hk (hid k hk)
 ·unfold lgF lgO
  rw [if_neg ho]
  cases h : (List.range 3).find? (fun j => decide ((nthR os j).id = o)) with
  | none => rfl
  | some j =>
   have h1 := List.find?_some h
   have h2 := List.mem_range.1 (List.mem_of_find?_eq_some h)
   simp only [decide_eq_true_eq] at h1
   rw [hid j h2] at h1
   omega
section
variable {key n : Nat} {s : Ps}
theorem PsOk.iv (H : PsOk key s n) (hn : n ≤ 24) (k x : Nat) (hx : x < (s.lg k).length) : ivOk (nthR (s.lg k) x).lo (nthR (s.lg k) x).hi = true := by
 obtain ⟨a1, a2, a3, a4, a5⟩ := H.ent k x hx
 unfold ivOk
 rw [decide_eq_true a1, decide_eq_true (by omega), decide_eq_true (by omega)]
 rfl
theorem PsOk.eok (H : PsOk key s n) (hn : n ≤ 24) (k x : Nat) (hx : x < (s.lg k).length) : (nthR (s.lg k) x).Ok := by
 obtain ⟨a1, a2, a3, a4, a5⟩ := H.ent k x hx
 exact ⟨(H.doc k x hx).1, by simp [Lit.wf, IntKind.min, IntKind.max, IntKind.bits, IntKind.signed]; omega, by simp [Lit.wf, IntKind.min, IntKind.max, IntKind.bits, IntKind.signed]; omega⟩
theorem PsOk.off (H : PsOk key s n) (hn : n ≤ 24) {k : Nat} (hk : k < 3) : offB ((k : Int) + 1) (s.lg k) = true := by
 refine offB_iff.2 ⟨by omega, by have := (H.len k).2; omega, ?_⟩
 unfold stepsO
 rw [List.all_eq_true]
 intro x hx
 have hx2 := List.mem_range.1 hx
 unfold stepO
 rw [H.iv hn k x hx2, Bool.true_and, Bool.or_eq_true, decide_eq_true_eq, decide_eq_true_eq]
 rcases Nat.eq_zero_or_pos x with h | h
 ·exact .inl h
 ·right
  have := H.lo k (x - 1) (by omega)
  rw [show x - 1 + 1 = x by omega] at this
  exact this
theorem PsOk.logOk (H : PsOk key s n) (hn : n ≤ 24) {h : Hd} (hh : h ∈ s.hs) : LogOk (lgF s) (psK key) h := by
 obtain ⟨m, hm, rfl⟩ := List.mem_iff_getElem.1 hh
 rw [← nthR_get hm]
 obtain ⟨k, q, once, b0, b1, b2, b3, b4, b5, b6⟩ := H.head m hm
 have hl := (H.len k).2
 rw [b1]
 have e : lgF s (sgHd ((k : Int) + 1) (s.lg k) q (secK key k) once).o = s.lg k := lgF_at s b0
 have hok : (sgHd ((k : Int) + 1) (s.lg k) q (secK key k) once).Ok := sg_ok (by omega) b3 (by omega) (secK_ok key k) b2
 refine ⟨⟨hok, ?_, ?_⟩, ?_, ?_, ?_, ?_⟩
 ·show ((k : Int) + 1) ≤ ((3 : Nat) : Int)
  omega
 ·show rightH (nth (psK key) (((k : Int) + 1).toNat - 1)) _ = true
  rw [show ((k : Int) + 1).toNat - 1 = k by omega, psK_at key b0]
  exact sg_right _ _ _ (secK_ok key k) b2
 ·rw [e]
  show ((q : Int)).toNat ≤ _
  rw [Int.toNat_natCast]; exact b4
 ·rw [e]; omega
 ·rw [e]
  show rootT (vals ((s.lg k).take ((q : Int)).toNat)) = rootT (vals ((s.lg k).take q))
  rw [Int.toNat_natCast]
 ·rw [e]
  exact fun x hx => ⟨H.eok hn k x hx, H.iv hn k x hx⟩
theorem PsOk.held (H : PsOk key s n) {os : List OfR} (hid : ∀ j, j < 3 → (nthR os j).id = (j : Int) + 1) (hln : ∀ j, j < 3 → (nthR os j).n = (s.lg j).length) {m : Nat} (hm : m < s.hs.length) : Held os s.lg 3 (nthR s.hs m) := by
 obtain ⟨k, q, once, b0, b1, b2, b3, b4, b5, b6⟩ := H.head m hm
 rw [b1]
 exact ⟨k, b0, hid k b0, q, rfl, by rw [hln k b0]; exact b4, rfl⟩
end
structure Later (s t : Ps) : Prop where
 lg : ∀ k, ∃ r, t.lg k = s.lg k ++ r
 hs : ∃ r, t.hs = s.hs ++ r
theorem Later.refl (s : Ps) : Later s s := ⟨fun k => ⟨[], (List.append_nil _).symm⟩, ⟨[], (List.append_nil _).symm⟩⟩
theorem Later.trans {s t u : Ps} (h : Later s t) (h' : Later t u) : Later s u :=
 ⟨fun k => by obtain ⟨r, e⟩ := h.lg k; obtain ⟨r', e'⟩ := h'.lg k; exact ⟨r ++ r', by rw [e', e, List.append_assoc]⟩, by obtain ⟨r, e⟩ := h.hs; obtain ⟨r', e'⟩ := h'.hs; exact ⟨r ++ r', by rw [e', e, List.append_assoc]⟩⟩
theorem step_later (key i : Nat) (s : Ps) (x : Lg) : Later s (stepP key i s x) := by
 unfold stepP
 simp only
 split
 ·split
  ·exact ⟨fun k => ⟨[], (List.append_nil _).symm⟩, ⟨[], (List.append_nil _).symm⟩⟩
  ·exact ⟨fun k => ⟨[], (List.append_nil _).symm⟩, ⟨_, rfl⟩⟩
 ·split
  ·exact ⟨fun k => ⟨[], (List.append_nil _).symm⟩, ⟨[], (List.append_nil _).symm⟩⟩
  ·refine ⟨fun k => ?_, ⟨[], (List.append_nil _).symm⟩⟩
   by_cases hk : k = x.who % 3
   ·subst hk; exact ⟨[newE s x], updN_same _ _ _⟩
   ·exact ⟨[], by rw [List.append_nil]; exact updN_ne _ _ hk⟩
theorem run_later (key : Nat) (l : Nat → Lg) {n m : Nat} (h : n ≤ m) : Later (runP key l n) (runP key l m) := by
  induction m with
  | zero => obtain rfl : n = 0 := by omega
            exact Later.refl _
  | succ m ih =>
    rcases Nat.lt_or_ge n (m + 1) with h1 | h1
    · exact (ih (by omega)).trans (step_later key m _ _)
    · obtain rfl : n = m + 1 := by omega
      exact Later.refl _
theorem Later.grown {key n : Nat} {s t : Ps} (L : Later s t) (H : PsOk key s n) : Grown (lgF s) (lgF t) s.hs t.hs := by
 refine ⟨fun h hh => ?_, fun h hh => ?_⟩
 ·obtain ⟨r, e⟩ := L.hs
  rw [e]; exact List.mem_append_left _ hh
 ·obtain ⟨m, hm, rfl⟩ := List.mem_iff_getElem.1 hh
  rw [← nthR_get hm]
  obtain ⟨k, q, once, b0, b1, b2, b3, b4, b5, b6⟩ := H.head m hm
  rw [b1]
  have e1 : lgF s (sgHd ((k : Int) + 1) (s.lg k) q (secK key k) once).o = s.lg k := lgF_at s b0
  have e2 : lgF t (sgHd ((k : Int) + 1) (s.lg k) q (secK key k) once).o = t.lg k := lgF_at t b0
  have e3 : (sgHd ((k : Int) + 1) (s.lg k) q (secK key k) once).s.toNat = q := Int.toNat_natCast q
  obtain ⟨r, e⟩ := L.lg k
  rw [e1, e2, e3, e]
  exact List.take_append_of_le_length b4
end Go.Proofs.YtacicanjmleikaaGreatDoor
