
import Derived.Test.YtacicanjmleikaaGreatDoorGr26
import Derived.Test.YtacicanjmleikaaGreatDoorGr20
/- A part of the proof. -/
namespace Go.Proofs.YtacicanjmleikaaGreatDoor
open Go.RowKit Go.Sort Go.Shelf Go.Maps
set_option linter.unusedSimpArgs false
set_option linter.unusedVariables false
set_option maxRecDepth 100000
theorem grow_head {s t : Ps} (L : Later s t) {j : Nat} (hj : j < s.hs.length) : nthR t.hs j = nthR s.hs j ∧ j < t.hs.length := by
 obtain ⟨r, e⟩ := L.hs
 rw [e]
 exact ⟨nthR_app_left hj, by rw [List.length_append]; omega⟩
theorem later_len {s t : Ps} (L : Later s t) : s.hs.length ≤ t.hs.length := by
 obtain ⟨r, e⟩ := L.hs
 rw [e, List.length_append]; omega
theorem later_log {s t : Ps} (L : Later s t) (k : Nat) : (s.lg k).length ≤ (t.lg k).length := by
 obtain ⟨r, e⟩ := L.lg k
 rw [e, List.length_append]; omega
structure HdK (key : Nat) (t : Ps) (h : Hd) (k q : Nat) : Prop where
 lt : k < 3
 o : h.o = (k : Int) + 1
 s : h.s = (q : Int)
 pos : 1 ≤ q
 le : q ≤ (t.lg k).length
 root : rootT (vals ((t.lg k).take q)) = h.r
 log : LogOk (lgF t) (psK key) h
theorem PsOk.hdK {key n : Nat} {t : Ps} (H : PsOk key t n) (hn : n ≤ 24) {j : Nat} (hj : j < t.hs.length) : ∃ k q, HdK key t (nthR t.hs j) k q := by
 have hm : nthR t.hs j ∈ t.hs := by rw [nthR_get hj]; exact List.getElem_mem _
 have hL := H.logOk hn hm
 obtain ⟨k, q, once, b0, b1, b2, b3, b4, b5, b6⟩ := H.head j hj
 exact ⟨k, q, b0, by rw [b1]; rfl, by rw [b1]; rfl, b3, b4, by rw [b1]; rfl, hL⟩
section
variable {base : Nat} {W : World} {b6 key : Nat} {t : Ps} {ob oc : Nat} {ta : Option Addr} {tc : Nat} {ha : Option Addr} {hn hc : Nat} {ka : Option Addr} {kc : Nat} {os : List OfR} {ts : List TsR} {n : Nat} {h : Hd} {k q : Nat}
theorem prove_past (P : PRep base W b6 key t (some ⟨ob, 0, none⟩) oc ta tc ha hn hc ka kc os ts) (H : PsOk key t n) (hn24 : n ≤ 24) (K : HdK key t h k q) {i : Nat} (hi : i < q) (tb : TB W) :
  Calls Tryz.prog 22 #[.agg #[.int .i64 ((k : Int) + 1), .slice (nthR os k).a (t.lg k).length (nthR os k).c], hdV h, .int .i64 i] W fun e w' => ∃ pa pn pc, e = .returned (.tuple #[rcV h i (nthR (t.lg k) i) pa pn pc, .int .i64 0]) ∧ Sl .u64 w' pa pn pc (inclT (vals ((t.lg k).take q)) i) ∧ (∀ b' off, pa = some ⟨b', off, none⟩ → 0 < pn → W.heap.size ≤ b') ∧ Ext W w' := by
 have ho := K.o
 have hs := K.s
 have hk := K.log.sg.ok
 have hr := K.root
 obtain ⟨o, s, r, C, S⟩ := h
 simp only at ho hs hr
 subst ho hs
 have hl := H.len k
 exact oprove_yes ((k : Int) + 1) _ _ _ (t.lg k) q i r C S W (P.logAt K.lt H hn24) (H.off hn24 K.lt) K.pos K.le hi hr hk tb
theorem check_past (H : PsOk key t n) (hn24 : n ≤ 24) (K : HdK key t h k q) {i : Nat} (hi : i < q) {pa : Option Addr} {pn pc : Nat} (hp : Sl .u64 W pa pn pc (inclT (vals ((t.lg k).take q)) i)) (tb : TB W) :
  Calls Tryz.prog 23 #[.int .i64 (nth (psK key) k), rcV h i (nthR (t.lg k) i) pa pn pc] W fun e w' => e = .returned (.tuple #[.bool true, .int .i64 0]) ∧ Ext W w' := by
 have hlt := K.lt
 have hle := K.le
 have e1 : lgF t h.o = t.lg k := by rw [K.o]; exact lgF_at t hlt
 have hiS : (i : Int) < h.s := by rw [K.s]; omega
 have h1 := K.log.ents i (by rw [e1]; omega)
 have h2 := inR_at K.log hiS
 have h3 := path_len K.log i
 rw [e1] at h1 h2 h3
 rw [show h.s.toNat = q by rw [K.s]; exact Int.toNat_natCast q] at h2 h3
 have hr := K.log.sg.right
 rw [K.o, show ((k : Int) + 1).toNat - 1 = k by omega] at hr
 have hpk : PubK (nth (psK key) k) := by rw [psK_at key hlt]; exact pubO_ok (secK_ok key k)
 have h4 := ocheck_any (nth (psK key) k) hpk.1 hpk.2 h K.log.sg.ok i hiS (nthR (t.lg k) i) h1.1 h1.2 pa pn pc _ W hp (by rw [← hp.hlen]; omega) tb
 rw [hr, h2] at h4
 exact h4
theorem values_past (P : PRep base W b6 key t (some ⟨ob, 0, none⟩) oc ta tc ha hn hc ka kc os ts) (H : PsOk key t n) (hn24 : n ≤ 24) (K : HdK key t h k q) :
  Calls Tryz.prog 16 #[.agg #[.int .i64 ((k : Int) + 1), .slice (nthR os k).a (t.lg k).length (nthR os k).c], .int .i64 q] W fun e w' => ∃ b o c', e = .returned (.slice (some ⟨b, o, none⟩) q c') ∧ Sl .u64 w' (some ⟨b, o, none⟩) q c' (vals ((t.lg k).take q)) ∧ Ext W w' := by
 have hl := (H.len k).2
 refine (rvalues_any ((k : Int) + 1) _ _ _ (t.lg k) q W (P.logAt K.lt H hn24) K.le (by omega)).mono ?_
 rintro e w' ⟨a', c', rfl, ho, hx⟩
 have hs := ho.sl (vals_u _)
 obtain ⟨b, o, rfl⟩ := hs.bd0 K.pos
 exact ⟨b, o, c', rfl, hs, hx⟩
theorem extend_past {q' : Nat} (hq : 1 ≤ q) (hle : q ≤ q') (h4 : q' ≤ 4096) {l : List Int} {b o c' : Nat} (hs : Sl .u64 W (some ⟨b, o, none⟩) q' c' l) (tb : TB W) :
  Calls Tryz.prog 17 #[.slice (some ⟨b, o, none⟩) q' c', .int .i64 q] W fun e w' => ∃ xa xc, e = .returned (.tuple #[.slice xa (extT l q).length xc, .int .i64 0]) ∧ Sl .u64 w' xa (extT l q).length xc (extT l q) ∧ Ext W w' := by
 refine (textend_any b o q' c' l q W (by omega) h4 hq hle hs tb).mono ?_
 rintro e w' ⟨xa, xc, rfl, ho, hu, hx⟩
 exact ⟨xa, xc, rfl, ho.sl hu, hx⟩
theorem extended_past {h' : Hd} {q' : Nat} (H : PsOk key t n) (hn24 : n ≤ 24) (K : HdK key t h k q) (K' : HdK key t h' k q') (hle : q ≤ q') {xa : Option Addr} {xc : Nat}
  (hs : Sl .u64 W xa (extT (vals ((t.lg k).take q')) q).length xc (extT (vals ((t.lg k).take q')) q)) (tb : TB W) :
  Calls Tryz.prog 24 #[.int .u64 h.r, .int .u64 h'.r, .int .i64 q, .int .i64 q', .slice xa (extT (vals ((t.lg k).take q')) q).length xc] W fun e w' => e = .returned (.bool true) ∧ Ext W w' := by
 have hl := (H.len k).2
 have hle' := K'.le
 have hlen : (vals ((t.lg k).take q')).length = q' := by rw [vals_len, List.length_take]; omega
 have hxl : (extT (vals ((t.lg k).take q')) q).length ≤ 13 := extT_len (by rw [hlen]; omega)
 have h1 := textended_any h.r h'.r K.log.sg.ok.r K'.log.sg.ok.r q q' K.pos hle (by omega) xa _ xc _ W hs (by omega) tb
 have e : exV h.r h'.r q q' (extT (vals ((t.lg k).take q')) q) = true := by
  rw [← exB_V K.pos hle (by omega), ← K.root, ← K'.root]
  have ht : (vals ((t.lg k).take q')).take q = vals ((t.lg k).take q) := by
   unfold vals
   rw [← List.map_take, List.take_take, Nat.min_eq_left hle]
  rcases Nat.eq_or_lt_of_le hle with h9 | h9
  ·subst h9
   have h2 := exB_same (l := vals ((t.lg k).take q)) (by rw [hlen]; exact K.pos) (by rw [hlen]; omega)
   rw [hlen] at h2
   rw [h2.1]; exact h2.2
  ·have h2 := exB_right (l := vals ((t.lg k).take q')) (m := q) K.pos (by rw [hlen]; exact h9) (by rw [hlen]; omega)
   rw [ht, hlen] at h2
   exact h2
 rw [e] at h1
 exact h1
end
open Go.RowKit Go.Sort Go.Shelf Go.Maps
def rcC (h : Hd) (i : Int) (e : En) (pa : Option Addr) (pn pc : Nat) : List Value := [.int .i64 h.o, .int .i64 h.s, .int .u64 h.r, .int .i64 h.C, .int .i64 h.S, .int .i64 i, .int .u64 e.d, .int .i64 e.lo, .int .i64 e.hi, .slice pa pn pc]
theorem rcC_one (h : Hd) (i : Int) (e : En) (pa : Option Addr) (pn pc : Nat) : ∀ v ∈ rcC h i e pa pn pc, v.oneCell' = true := by
 intro v hv
 simp only [rcC, List.mem_cons, List.not_mem_nil, or_false] at hv
 rcases hv with rfl | rfl | rfl | rfl | rfl | rfl | rfl | rfl | rfl | rfl <;> rfl
abbrev RRT : TypeId := 44
def rcZ : Array Value := #[.int .i64 0, .int .i64 0, .int .u64 0, .int .i64 0, .int .i64 0, .int .i64 0, .int .u64 0, .int .i64 0, .int .i64 0, .slice none 0 0]
def RPv (h : Hd) (i : Int) (e : En) : RelL Ext := ⟨none, fun _ v _ => ∃ pa pn pc, v = .tuple #[rcV h i e pa pn pc, .int .i64 0], fun _ _ _ _ h _ => h⟩
def RSm (j : Nat) : RelL Ext := ⟨some j, fun u v _ => v = u, fun _ _ _ _ h _ => h⟩
def RPt (j : Nat) : RelL Ext := ⟨some j, fun u v _ => ∃ A y, u = .tuple #[A, y] ∧ v = A, fun _ _ _ _ h _ => h⟩
def RPo : RelL Ext := ⟨none, fun _ v _ => ∃ b, v = ptrV b, fun _ _ _ _ h _ => h⟩
structure HI24 (V : World) (h : Hd) (i : Int) (e : En) (path : List Int) (listed : Nat → Bool) (vs : List Value) (W : World) : Prop where
 ex : Ext V W
 b : listed 10 = true → listed 11 = false → ∃ b, vs.getD 10 undef = ptrV b ∧ V.heap.size ≤ b ∧ b < W.heap.size ∧ Bk W b RRT rcZ
 p : listed 6 = true → listed 11 = false → ∃ pa pn pc, vs.getD 6 undef = .tuple #[rcV h i e pa pn pc, .int .i64 0] ∧ Sl .u64 W pa pn pc path ∧ ∀ p off, pa = some ⟨p, off, none⟩ → 0 < pn → p < W.heap.size ∧ (listed 10 = true → vs.getD 10 undef ≠ ptrV p)
 f : listed 11 = true → ∃ b pa pn pc, vs.getD 10 undef = ptrV b ∧ Bk W b RRT (rcC h i e pa pn pc).toArray ∧ Sl .u64 W pa pn pc path
section
variable {V : World} {h : Hd} {i : Int} {e : En} {path : List Int} {listed : Nat → Bool} {vs : List Value} {W W' : World}
theorem HI24.zero (hx : Ext V W) : HI24 V h i e path (fun _ => false) vs W := ⟨hx, (fun h9 => by cases h9), (fun h9 => by cases h9), (fun h9 => by cases h9)⟩
theorem HI24.other (H : HI24 V h i e path listed vs W) {j : Nat} {v : Value} (h6 : j ≠ 6) (h10 : j ≠ 10) (h11 : j ≠ 11) : HI24 V h i e path (updE listed j) (vs.set j v) W := by
 have e6 : updE listed j 6 = listed 6 := by simp [updE, h6.symm]
 have e10 : updE listed j 10 = listed 10 := by simp [updE, h10.symm]
 have e11 : updE listed j 11 = listed 11 := by simp [updE, h11.symm]
 refine ⟨H.ex, ?_, ?_, ?_⟩
 ·rw [e10, e11, getD_set_ne h10]; exact H.b
 ·rw [e6, e10, e11, getD_set_ne h6, getD_set_ne h10]; exact H.p
 ·rw [e11, getD_set_ne h10]; exact H.f
theorem HI24.call (H : HI24 V h i e path listed vs W) (n11 : listed 11 = false) {pa : Option Addr} {pn pc : Nat} (hl : 6 < vs.length) (hx : Ext W W') (hs : Sl .u64 W' pa pn pc path) (hf : ∀ p off, pa = some ⟨p, off, none⟩ → 0 < pn → W.heap.size ≤ p) :
  HI24 V h i e path (updE listed 6) (vs.set 6 (.tuple #[rcV h i e pa pn pc, .int .i64 0])) W' := by
 have e10 : updE listed 6 10 = listed 10 := by simp [updE]
 have e11 : updE listed 6 11 = listed 11 := by simp [updE]
 refine ⟨H.ex.trans hx, ?_, ?_, ?_⟩
 ·rw [e10, e11, getD_set_ne (by decide)]
  intro h1 h2
  obtain ⟨b, k1, k2, k3, k4⟩ := H.b h1 h2
  exact ⟨b, k1, k2, Nat.lt_of_lt_of_le k3 hx.sz, k4.ext hx⟩
 ·rw [e10, e11, getD_set_eq hl, getD_set_ne (by decide)]
  intro _ h2
  refine ⟨pa, pn, pc, rfl, hs, fun p off h3 h4 => ⟨?_, fun h5 h6 => ?_⟩⟩
  ·obtain ⟨x, hx9⟩ := hs.not_row h3 h4
   exact lt_of_cell hx9
  ·obtain ⟨b, k1, k2, k3, k4⟩ := H.b h5 h2
   rw [k1] at h6
   have h7 := hf p off h3 h4
   simp only [ptrV, Value.pointer.injEq, Option.some.injEq, Addr.mk.injEq, and_true] at h6
   omega
 ·rw [e11, n11]; exact fun h9 => by cases h9
theorem HI24.al (H : HI24 V h i e path listed vs W) (n11 : listed 11 = false) (hl : 10 < vs.length) : HI24 V h i e path (updE listed 10) (vs.set 10 (ptrV W.heap.size)) (W.alloc (.cells rcZ RRT)) := by
 have e6 : updE listed 10 6 = listed 6 := by simp [updE]
 have e11 : updE listed 10 11 = listed 11 := by simp [updE]
 have hx : Ext W (W.alloc (.cells rcZ RRT)) := (Ext.refl W).alloc _
 refine ⟨H.ex.trans hx, ?_, ?_, ?_⟩
 ·rw [getD_set_eq hl]
  exact fun _ _ => ⟨_, rfl, H.ex.sz, (Bk.new W RRT rcZ).lt, Bk.new W RRT rcZ⟩
 ·rw [e6, e11, getD_set_ne (by decide), getD_set_eq hl]
  intro h1 h2
  obtain ⟨pa, pn, pc, k1, k2, k3⟩ := H.p h1 h2
  refine ⟨pa, pn, pc, k1, k2.ext hx, fun p off h3 h4 => ?_⟩
  have h5 := (k3 p off h3 h4).1
  refine ⟨Nat.lt_of_lt_of_le h5 hx.sz, fun _ h6 => ?_⟩
  simp only [ptrV, Value.pointer.injEq, Option.some.injEq, Addr.mk.injEq, and_true] at h6
  omega
 ·rw [e11, n11]; exact fun h9 => by cases h9
theorem HI24.st (H : HI24 V h i e path listed vs W) (i6 : listed 6 = true) (i10 : listed 10 = true) (n11 : listed 11 = false) {b : Nat} (hb : vs.getD 10 undef = ptrV b) {pa : Option Addr} {pn pc : Nat} (h6 : vs.getD 6 undef = .tuple #[rcV h i e pa pn pc, .int .i64 0]) (v : Value) :
  HI24 V h i e path (updE listed 11) (vs.set 11 v) (W.setCells b 0 (rcC h i e pa pn pc)) := by
 obtain ⟨b', k1, k2, k3, k4⟩ := H.b i10 n11
 obtain ⟨pa', pn', pc', m1, m2, m3⟩ := H.p i6 n11
 have hbb : b' = b := by
  rw [hb] at k1
  simp only [ptrV, Value.pointer.injEq, Option.some.injEq, Addr.mk.injEq, and_true] at k1
  exact k1.symm
 subst hbb
 have hpp : pa' = pa ∧ pn' = pn ∧ pc' = pc := by
  rw [h6] at m1
  simp only [rcV, Value.tuple.injEq, Value.agg.injEq, Array.mk.injEq, List.cons.injEq, Value.slice.injEq, and_true, true_and] at m1
  obtain ⟨x1, x2, x3⟩ := m1
  exact ⟨x1.symm, x2.symm, x3.symm⟩
 obtain ⟨rfl, rfl, rfl⟩ := hpp
 refine ⟨Ext.cells k2 _ _ H.ex, fun _ h9 => by simp [updE] at h9, fun _ h9 => by simp [updE] at h9, fun _ => ⟨b', pa', pn', pc', ?_, k4.allCells _ rfl, ?_⟩⟩
 ·rw [getD_set_ne (by decide)]; exact hb
 ·refine Sl.otherCells (fun p off h3 h4 h5 => ?_) _ _ m2
  subst h5
  exact (m3 p off h3 h4).2 i10 hb
end
def RVl (q : Nat) (l : List Int) : RelL Ext := ⟨none, fun _ v W => ∃ b o c, v = .slice (some ⟨b, o, none⟩) q c ∧ Sl .u64 W (some ⟨b, o, none⟩) q c l, fun _ _ _ _ ⟨b, o, c, h1, h2⟩ hE => ⟨b, o, c, h1, h2.ext hE⟩⟩
def RXt (l : List Int) : RelL Ext := ⟨none, fun _ v W => ∃ a c, v = .tuple #[.slice a l.length c, .int .i64 0] ∧ Sl .u64 W a l.length c l, fun _ _ _ _ ⟨a, c, h1, h2⟩ hE => ⟨a, c, h1, h2.ext hE⟩⟩
def RXs (l : List Int) : RelL Ext := ⟨none, fun _ v W => ∃ a c, v = .slice a l.length c ∧ Sl .u64 W a l.length c l, fun _ _ _ _ ⟨a, c, h1, h2⟩ hE => ⟨a, c, h1, h2.ext hE⟩⟩
open Go.RowKit Go.Sort Go.Shelf Go.Maps
def EntV (os : List OfR) (n : Nat) : Value := if (nthR os (n % 3)).n = 0 then .tuple #[.int .i64 0, .int .i64 0, .bool false] else .tuple #[.int .i64 ((n % 3 : Nat) : Int), .int .i64 ((n / 3 % (nthR os (n % 3)).n : Nat) : Int), .bool true]
set_option maxHeartbeats 4000000 in
theorem r7entry_any {oa ta ha ka : Option Addr} {oc tn tc hn hc kn kc : Nat} {os : List OfR} {n : Nat} {w : World} (h : Rw w oa 3 oc os) (hn6 : n < 65536) (hbd : ∀ k, k < 3 → (nthR os k).n ≤ 4096) :
  Calls Tryz.prog 20 #[.agg #[.slice oa 3 oc, .slice ta tn tc, .slice ha hn hc, .slice ka kn kc], .int .u16 n] w fun e w' =>
   e = .returned (EntV os n) ∧ Ext w w' := by
 have hB := Bk.new w 67 #[.slice oa 3 oc, .slice ta tn tc, .slice ha hn hc, .slice ka kn kc]
 have hx : Ext w (w.alloc (.cells #[.slice oa 3 oc, .slice ta tn tc, .slice ha hn hc, .slice ka kn kc] 67)) := (Ext.refl w).alloc _
 have hk3 : n % 3 < 3 := Nat.mod_lt _ (by omega)
 obtain ⟨x1, o1, rfl, hc1⟩ := h.at (by omega)
 have hr := rangeAt_ext (hc1 (n % 3) hk3) hx
 rw [sz_of] at hr
 have HB4 := Lib.hid (hbd (n % 3) hk3)
 obtain ⟨d0, d1⟩ := cells_of hr
 clear hr hc1 hbd
 obtain ⟨q, hq⟩ : ∃ q, nthR os (n % 3) = q := ⟨_, rfl⟩
 rw [hq] at HB4 d0 d1
 have HQE := Lib.hid hq
 clear hq
 go_enter Tryz.func20, Tryz.ntmps20
 go_upto_region 1 with fail
 generalize w.alloc (.cells #[.slice (some ⟨x1, o1, none⟩) 3 oc, .slice ta tn tc, .slice ha hn hc, .slice ka kn kc] 67) = V at *
 obtain ⟨b2, hb2⟩ : ∃ b, w.heap.size = b := ⟨_, rfl⟩
 rw [hb2] at hB ⊢
 clear hb2
 have c0 := hB.c 0 _ rfl
 go_upto_region 2 with fail
 rw [show ((n : Int) % 3) = ((n % 3 : Nat) : Int) by omega]
 have HN3 : Hid (n % 3 < 3) := Lib.hid hk3
 obtain ⟨k, hk⟩ : ∃ k, n % 3 = k := ⟨_, rfl⟩
 have HK := Lib.hid hk
 rw [hk] at d0 d1 hk3 ⊢
 clear hk
 by_cases hz : q.n = 0
 ·have hz2 : ((q.n : Int) == 0) = true := by simp [hz]
  have HZ := Lib.hid hz
  clear hz
  go_wp2_with fail
  all_goals
   go_ret3
   exact ⟨congrArg Ending.returned (show _ = EntV os n by unfold EntV; rw [HQE.out, if_pos HZ.out]; rfl), hx⟩
 ·have hz2 : ((q.n : Int) == 0) = false := by simp; exact hz
  have HZ := Lib.hid hz
  have hz3 : ¬ ((q.n : Int) = 0) := by omega
  go_upto_region 4 with fail
  have hg := @grow_cell
  have hl1 := hB.lt
  have hl2 := lt_of_cell d1
  simp only at hl2
  refine region_ext (by kernel_rfl) (by kernel_rfl) ?_
  repeat (go_big_quiet_step (fail))
  refine wpQuiet_nil ?_
  intro U hE2
  go_wp2_with fail
  go_ret3
  refine ⟨?_, hx.trans hE2⟩
  refine congrArg Ending.returned (show _ = EntV os n from ?_)
  unfold EntV
  rw [HQE.out, if_neg HZ.out, HK.out]
  have e : ((n : Int) / 3 % (q.n : Int)) = ((n / 3 % q.n : Nat) : Int) := by simp
  rw [← e]
  rfl
end Go.Proofs.YtacicanjmleikaaGreatDoor
