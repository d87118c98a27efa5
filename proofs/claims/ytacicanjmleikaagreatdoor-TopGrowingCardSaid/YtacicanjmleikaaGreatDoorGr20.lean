
import Derived.Test.YtacicanjmleikaaGreatDoorGr19
import Derived.Test.YtacicanjmleikaaGreatDoorGr6
/- A part of the proof. -/
namespace Go.Proofs.YtacicanjmleikaaGreatDoor
open Go.RowKit Go.Sort Go.Shelf Go.Maps
set_option linter.unusedSimpArgs false
set_option linter.unusedVariables false
set_option maxRecDepth 100000
def pubO (key : Nat) : Int := ((pw 2147483579 4 key : Nat) : Int)
theorem pubO_ok {key : Nat} (hk : Sec key) : PubK (pubO key) := by
 refine ⟨fun e => ?_, memB_pw key⟩
 have e1 : pw 2147483579 4 key = 1 := by unfold pubO at e; omega
 rw [pw_def] at e1
 have h0 : (4 : Nat) ^ key % pP = 4 ^ 0 % pP := by rw [show pP = 2147483579 from rfl, e1]
 have := Elem.inj Elem.gen (by decide) (r := key) (s := 0) hk.lt (by decide) h0
 have := hk.lo
 omega
theorem sg_ok {id : Int} {es : List En} {m key once : Nat} (hid : 1 ≤ id ∧ id ≤ 16) (h1 : 1 ≤ m) (hm : m ≤ 4096) (hk : Sec key) (ho : Sec once) : (sgHd id es m key once).Ok := by
 have hr := root_rng (vals (es.take m))
 obtain ⟨c, e1, e2, e3⟩ := sgS_ok hk ho (msgH id m (rootT (vals (es.take m))))
 have hc := sgC_ok hk ho (msgH id m (rootT (vals (es.take m))))
 refine ⟨hid, ?_, hr, ?_, ?_⟩
 ·show 1 ≤ (m : Int) ∧ (m : Int) ≤ 4096
  omega
 ·show 0 ≤ sgC key once (msgH id m (rootT (vals (es.take m)))) ∧ sgC key once (msgH id m (rootT (vals (es.take m)))) ≤ 1073741788
  rw [hc, e1]
  omega
 ·show 0 ≤ sgS key once (msgH id m (rootT (vals (es.take m)))) ∧ sgS key once (msgH id m (rootT (vals (es.take m)))) ≤ 1073741788
  rw [e3]
  omega
theorem sg_right (id : Int) (es : List En) (m : Nat) {key once : Nat} (hk : Sec key) (ho : Sec once) : rightH (pubO key) (sgHd id es m key once) = true := by
 show verB ((pw 2147483579 4 key : Nat) : Int) (sgC key once (msgH id m (rootT (vals (es.take m))))) (sgS key once (msgH id m (rootT (vals (es.take m))))) (msgH id m (rootT (vals (es.take m)))) = true
 rw [(verB_sign hk ho _ _).1, beq_self_eq_true]
theorem Rw.oneO {w : World} {vb : Nat} {T : TypeId} {x : OfR} (hx : (Lit.int .i64 x.id).wf = true) (hb : Bk w vb T #[.int .i64 x.id, .slice x.a x.n x.c]) : Rw w (some ⟨vb, 0, none⟩) 1 1 [x] := by
 refine ⟨rfl, Nat.le_refl _, by unfold maxLen; omega, by omega, fun i hi => ⟨vb, 0, rfl, ?_⟩, fun y hy => ?_⟩
 ·obtain rfl : i = 0 := by omega
  intro j v hv
  rw [Nat.zero_mul]
  simp only [Nat.zero_add]
  exact hb.c j v (by rw [← hv]; simp [nthR, Cel.enc, OfR.enc])
 ·rw [List.mem_singleton.1 hy]; exact hx
structure Solo (w : World) (id : Int) (a : Option Addr) (n c : Nat) (es : List En) (key once : Nat) : Prop where
 row : Rw w a n c es
 off : offB id es = true
 pos : 1 ≤ n
 key_ : Sec key
 once_ : Sec once
theorem Solo.n4 {w : World} {id : Int} {a : Option Addr} {n c : Nat} {es : List En} {key once : Nat} (h : Solo w id a n c es key once) : n ≤ 4096 := by
 rw [← h.row.hlen]; exact (offB_iff.1 h.off).2.1
theorem Solo.ok {w : World} {id : Int} {a : Option Addr} {n c : Nat} {es : List En} {key once : Nat} (h : Solo w id a n c es key once) : (sgHd id es n key once).Ok :=
 sg_ok (offB_iff.1 h.off).1 h.pos h.n4 h.key_ h.once_
def FndP (w : World) (id : Int) (n : Nat) (es : List En) (key once i k : Nat) : Ending → World → Prop := fun e w' =>
 ∃ pa pn pc qa qn qc, e = .returned (.tuple #[prV ⟨sgHd id es n key once, i, nthR es i, pa, pn, pc⟩ ⟨sgHd id es n key once, k, nthR es k, qa, qn, qc⟩ none 0 0, .bool true, .int .i64 0]) ∧
  Sl .u64 w' pa pn pc (inclT (vals (es.take n)) i) ∧ Sl .u64 w' qa qn qc (inclT (vals (es.take n)) k) ∧ Ext w w'
theorem find_solo {w : World} {id : Int} {a : Option Addr} {n c : Nat} {es : List En} {key once : Nat} (H : Solo w id a n c es key once) {ob hb : Nat} {TO : TypeId} (ho : Bk w ob TO #[.int .i64 id, .slice a n c])
  (hh : Bk w hb 34 #[.int .i64 (sgHd id es n key once).o, .int .i64 (sgHd id es n key once).s, .int .u64 (sgHd id es n key once).r, .int .i64 (sgHd id es n key once).C, .int .i64 (sgHd id es n key once).S])
  {i k : Nat} (hik : i < k) (hk : k < n) (ht : TB w) :
  Calls Tryz.prog 12 #[.slice (some ⟨ob, 0, none⟩) 1 1, .slice (some ⟨hb, 0, none⟩) 1 1, .int .i64 id, .int .i64 i, .int .i64 id, .int .i64 k] w (FndP w id n es key once i k) := by
 have hid := (offB_iff.1 H.off).1
 have n4 := H.n4
 have HA : ArcIn w (some ⟨ob, 0, none⟩) 1 1 [⟨id, a, n, c⟩] (fun _ => es) (some ⟨hb, 0, none⟩) 1 1 [sgHd id es n key once] := by
  refine ⟨Rw.oneO (x := ⟨id, a, n, c⟩) (by simp [Lit.wf, IntKind.min, IntKind.max, IntKind.bits, IntKind.signed]; omega) ho, by omega, fun j hj => ?_, fun j hj i hi => by omega, Rw.oneH H.ok hh, by omega⟩
  obtain rfl : j = 0 := by omega
  exact ⟨H.row, H.off⟩
 have HL : levA [sgHd id es n key once] id i = [⟨[sgHd id es n key once], i⟩] := by
  have : starts id i (sgHd id es n key once) = true := by
   unfold starts
   rw [decide_eq_true (show (sgHd id es n key once).o = id from rfl), decide_eq_true (show (i : Int) < (sgHd id es n key once).s by show (i : Int) < (n : Int); omega)]
   rfl
  simp [levA, this]
 refine (find_one HA (fun q hq => ?_) 0 i k (by omega) (by show i < n; omega) (by show k < n; omega) (sgHd id es n key once) H.ok rfl n rfl (Nat.le_refl n) rfl (by rw [show (sgHd id es n key once).o = id from rfl, HL]; exact Nat.zero_lt_one) (by rw [show (sgHd id es n key once).o = id from rfl, HL]; rfl) (by omega) hk hik ht).mono ?_
 ·obtain rfl : q = 0 := by omega
  exact ⟨0, by omega, rfl, n, rfl, Nat.le_refl n, rfl⟩
 ·intro e w' h
  exact h
structure PrC (CL : List Value) (h : Hd) (es : List En) (i k : Nat) (pa : Option Addr) (pn pc : Nat) (qa : Option Addr) (qn qc : Nat) : Prop where
 is_ : Value.agg CL.toArray = prV ⟨h, i, nthR es i, pa, pn, pc⟩ ⟨h, k, nthR es k, qa, qn, qc⟩ none 0 0
 len : CL.length = 22
 one : ∀ v ∈ CL, v.oneCell' = true
 fst : CL[6]? = some (.int .u64 (nthR es i).d)
 lst : CL[18]? = some (.int .u64 (nthR es k).d)
theorem prC (h : Hd) (es : List En) (i k : Nat) (pa : Option Addr) (pn pc : Nat) (qa : Option Addr) (qn qc : Nat) : ∃ CL, PrC CL h es i k pa pn pc qa qn qc :=
 ⟨[.int .i64 h.o, .int .i64 h.s, .int .u64 h.r, .int .i64 h.C, .int .i64 h.S, .int .i64 i, .int .u64 (nthR es i).d, .int .i64 (nthR es i).lo, .int .i64 (nthR es i).hi, .slice pa pn pc, .slice none 0 0, .slice none 0 0, .int .i64 h.o, .int .i64 h.s, .int .u64 h.r, .int .i64 h.C, .int .i64 h.S, .int .i64 k, .int .u64 (nthR es k).d, .int .i64 (nthR es k).lo, .int .i64 (nthR es k).hi, .slice qa qn qc], rfl, rfl, by intro v hv; simp only [List.mem_cons, List.not_mem_nil, or_false] at hv; rcases hv with rfl | rfl | rfl | rfl | rfl | rfl | rfl | rfl | rfl | rfl | rfl | rfl | rfl | rfl | rfl | rfl | rfl | rfl | rfl | rfl | rfl | rfl <;> rfl, rfl, rfl⟩
def FndQ (w : World) (h : Hd) (n : Nat) (es : List En) (i k : Nat) : Ending → World → Prop := fun e w' =>
 ∃ CL pa pn pc qa qn qc, e = .returned (.tuple #[.agg CL.toArray, .bool true, .int .i64 0]) ∧ PrC CL h es i k pa pn pc qa qn qc ∧
  Sl .u64 w' pa pn pc (inclT (vals (es.take n)) i) ∧ Sl .u64 w' qa qn qc (inclT (vals (es.take n)) k) ∧ Ext w w'
theorem fndQ {w w' : World} {id : Int} {n : Nat} {es : List En} {key once i k : Nat} {e : Ending} (h : FndP w id n es key once i k e w') : FndQ w (sgHd id es n key once) n es i k e w' := by
 obtain ⟨pa, pn, pc, qa, qn, qc, h1, h2, h3, h4⟩ := h
 obtain ⟨CL, hC⟩ := prC (sgHd id es n key once) es i k pa pn pc qa qn qc
 exact ⟨CL, pa, pn, pc, qa, qn, qc, by rw [hC.is_]; exact h1, hC, h2, h3, h4⟩
theorem find_soloQ {w : World} {id : Int} {a : Option Addr} {n c : Nat} {es : List En} {key once : Nat} (H : Solo w id a n c es key once) {ob hb : Nat} {TO : TypeId} (ho : Bk w ob TO #[.int .i64 id, .slice a n c])
  (hh : Bk w hb 34 #[.int .i64 (sgHd id es n key once).o, .int .i64 (sgHd id es n key once).s, .int .u64 (sgHd id es n key once).r, .int .i64 (sgHd id es n key once).C, .int .i64 (sgHd id es n key once).S])
  {i k : Nat} (hik : i < k) (hk : k < n) (ht : TB w) :
  Calls Tryz.prog 12 #[.slice (some ⟨ob, 0, none⟩) 1 1, .slice (some ⟨hb, 0, none⟩) 1 1, .int .i64 id, .int .i64 i, .int .i64 id, .int .i64 k] w (FndQ w (sgHd id es n key once) n es i k) :=
 (find_solo H ho hh hik hk ht).mono fun _ _ h => fndQ h
def fkP (es : List En) (m : Nat) : List Int := if m < es.length then rootT (vals (es.take m)) :: extT (vals es) m else extT (vals es) m
theorem fk_solo {a : Int} {es : List En} {m : Nat} (h1 : 1 ≤ m) (hm : m ≤ es.length) (hn : es.length ≤ 4096) : fkV a (rootT (vals es)) m es.length (fkP es m) = decide (rootT (vals (es.take m)) ≠ a) := by
 have hl := vals_len es
 by_cases e : m = es.length
 ·subst e
  have h := exB_same (l := vals es) (by omega) (by omega)
  rw [hl] at h
  unfold fkV fkP
  rw [if_pos rfl, if_neg (by omega), h.1, List.take_of_length_le (Nat.le_refl _)]
  simp only [List.length_nil, decide_true, Bool.true_and]
  exact decide_eq_decide.2 ⟨fun h e => h e.symm, fun h e => h e.symm⟩
 ·have hlt : m < es.length := by omega
  have ht : vals (es.take m) = (vals es).take m := by simp [vals]
  have h := exB_right (l := vals es) (m := m) h1 (by omega) (by omega)
  rw [hl, exB_V h1 hm hn] at h
  unfold fkV fkP
  rw [if_neg e, if_pos hlt, if_neg (by simp), show nth (rootT (vals (es.take m)) :: extT (vals es) m) 0 = rootT (vals (es.take m)) from rfl, ht, List.drop_one, List.tail_cons, h]
  by_cases e2 : rootT ((vals es).take m) = a
  ·rw [if_pos e2, decide_eq_false (by simp [e2])]
  ·rw [if_neg e2, decide_eq_true e2]
open Go.RowKit Go.Sort Go.Shelf Go.Maps
def lgO (os : List OfR) (es : Nat → List En) (n : Nat) (id : Int) : List En := match (List.range n).find? (fun j => decide ((nthR os j).id = id)) with | some j => es j | none => []
theorem lgO_at {os : List OfR} {es : Nat → List En} {n j : Nat} (hap : ∀ j, j < n → ∀ i, i < j → (nthR os i).id < (nthR os j).id) (hj : j < n) {id : Int} (e : (nthR os j).id = id) : lgO os es n id = es j := by
 unfold lgO
 cases h : (List.range n).find? (fun j => decide ((nthR os j).id = id)) with
 | none =>
  have := List.find?_eq_none.1 h j (List.mem_range.2 hj)
  simp [e] at this
 | some i =>
  have h1 := List.find?_some h
  have h2 := List.mem_range.1 (List.mem_of_find?_eq_some h)
  simp only [decide_eq_true_eq] at h1
  rcases Nat.lt_trichotomy i j with h3 | h3 | h3
  ·have := hap j hj i h3; omega
  ·rw [h3]
  ·have := hap i h2 j h3; omega
def thruB (cs : List Hd) (o : Int) : Bool := cs.any fun g => decide (g.o = o)
def lastH (cs : List Hd) : Hd := nthR cs (cs.length - 1)
def logAt (lg : Int → List En) (cs : List Hd) (h : Hd) : Int := firstE ((lg h.o).take h.s.toNat) (digH (lastH cs))
def lonS (lg : Int → List En) (c : Ch) (h : Hd) : List Ch := if thruB c.hs h.o = true then [] else if 0 ≤ logAt lg c.hs h then [⟨c.hs ++ [h], logAt lg c.hs h⟩] else []
def lonL (lg : Int → List En) (hs : List Hd) (c : Ch) : List Ch := hs.flatMap (lonS lg c)
theorem lonS_len (lg : Int → List En) (c : Ch) (h : Hd) : (lonS lg c h).length ≤ 1 := by
 unfold lonS
 split
 ·exact Nat.zero_le 1
 ·split
  ·exact Nat.le_refl 1
  ·exact Nat.zero_le 1
theorem lonL_snoc (lg : Int → List En) (hs : List Hd) (c : Ch) (k : Nat) (hk : k < hs.length) : lonL lg (hs.take (k + 1)) c = lonL lg (hs.take k) c ++ lonS lg c (nthR hs k) := by
 unfold lonL
 rw [List.take_succ_eq_append_getElem hk, List.flatMap_append, ← nthR_get hk]
 simp
theorem lonL_len (lg : Int → List En) (c : Ch) : ∀ hs : List Hd, (lonL lg hs c).length ≤ hs.length
 | [] => Nat.le_refl 0
 | h :: t => by
  have h1 := lonL_len lg c t
  have h2 := lonS_len lg c h
  unfold lonL at h1 ⊢
  rw [List.flatMap_cons, List.length_append, List.length_cons]
  omega
theorem thruB_no {cs : List Hd} {o : Int} (h : ∀ i, i < cs.length → (nthR cs i).o ≠ o) : thruB cs o = false := by
 unfold thruB
 rw [Bool.eq_false_iff]
 intro e
 obtain ⟨g, hg, he⟩ := List.any_eq_true.1 e
 obtain ⟨i, hi, rfl⟩ := List.mem_iff_getElem.1 hg
 exact h i hi (by rw [nthR_get hi]; simpa using he)
theorem thruB_yes {cs : List Hd} {o : Int} {i : Nat} (hi : i < cs.length) (h : (nthR cs i).o = o) : thruB cs o = true := by
 unfold thruB
 rw [List.any_eq_true]
 exact ⟨cs[i], List.getElem_mem hi, by rw [← nthR_get hi]; simpa using h⟩
theorem Held.lg {os : List OfR} {es : Nat → List En} {n : Nat} {h : Hd} (hh : Held os es n h) (hap : ∀ j, j < n → ∀ i, i < j → (nthR os i).id < (nthR os j).id) :
  ∃ j, j < n ∧ (nthR os j).id = h.o ∧ lgO os es n h.o = es j ∧ ∃ s : Nat, h.s = s ∧ s ≤ (nthR os j).n ∧ rootT (vals ((es j).take s)) = h.r := by
 obtain ⟨j, hj, hid, s, hs, hsn, hr⟩ := hh
 exact ⟨j, hj, hid, lgO_at hap hj hid, s, hs, hsn, hr⟩
def HiC (B : Nat) (r : ChR) : Prop := ∀ b off, r.a = some ⟨b, off, none⟩ → B ≤ b
def OwC2 (base : Nat) (W : World) (a : Option Addr) (n c : Nat) (xs : List Ch) : Prop := ∃ rs : List ChR, OwR 90 base W a n c rs ∧ xs.length = n ∧ (n = 0 → a = none) ∧ ∀ i, i < n → ChO a W (nthR rs i) (nthC xs i) ∧ HiC base (nthR rs i)
theorem OwC2.nil (base : Nat) (W : World) : OwC2 base W none 0 0 [] := ⟨[], OwR.nil _ _ _, rfl, fun _ => rfl, fun i hi => absurd hi (Nat.not_lt_zero _)⟩
theorem OwC2.ext {base : Nat} {W W' : World} {a : Option Addr} {n c : Nat} {xs : List Ch} (h : OwC2 base W a n c xs) (he : Ext W W') : OwC2 base W' a n c xs :=
 let ⟨rs, h1, h2, h0, h3⟩ := h; ⟨rs, h1.ext he, h2, h0, fun i hi => ⟨(h3 i hi).1.ext he, (h3 i hi).2⟩⟩
theorem OwC2.mono {base base' : Nat} {W : World} {a : Option Addr} {n c : Nat} {xs : List Ch} (h : OwC2 base W a n c xs) (hb : base' ≤ base) : OwC2 base' W a n c xs :=
 let ⟨rs, h1, h2, h0, h3⟩ := h; ⟨rs, h1.monoB hb, h2, h0, fun i hi => ⟨(h3 i hi).1, fun b off e => Nat.le_trans hb ((h3 i hi).2 b off e)⟩⟩
theorem OwC2.own {base : Nat} {W : World} {a : Option Addr} {n c : Nat} {xs : List Ch} (h : OwC2 base W a n c xs) : OwCh base W a n c xs :=
 let ⟨rs, h1, h2, _, h3⟩ := h; ⟨rs, h1, h2, fun i hi => (h3 i hi).1⟩
theorem appCh2 {P : Program} {T : TypeId} {z : Value} {by_ : Nat} (hE : ElS P T 90 z 2 by_) {ops : Array Oper} {rest : List Oper} {o : Oper} {a : Act} {Q : Exit → Act → World → Prop} (hgd : o.guard = none) (s x : Operand)
  (ho : o.op = .call { callee := .builtin .append, args := #[s, x], argTypes := #[T, T] })
  (w : World) (base : Nat) (sa : Option Addr) (n c : Nat) (ts : List Ch) (hs : a.eval s = .slice sa n c) (hown : OwC2 base w sa n c ts)
  (b off m tc : Nat) (us : List Ch) (rs' : List ChR) (hx : a.eval x = .slice (some ⟨b, off, none⟩) m tc) (hl : rs'.length = m) (hul : us.length = m) (hn : w.rangeAt b off (rs'.flatMap Cel.enc))
  (hin : ∀ i, i < m → ChO sa w (nthR rs' i) (nthC us i) ∧ HiC base (nthR rs' i))
  (hm : 0 < m) (hbase : base ≤ w.heap.size) (h63 : n + m ≤ maxLen) (hbytes : (n + m) * by_ ≤ 140737488355328)
  (h : ∀ g cap w', OwC2 base w' (some ⟨g, 0, none⟩) (n + m) cap (ts ++ us) → Below base w w' → wpList P ops Q rest (a.put o.dst (.slice (some ⟨g, 0, none⟩) (n + m) cap)) w') :
  wpList P ops Q (o :: rest) a w := by
 obtain ⟨rs, hrow, hlen, _, hvs⟩ := hown
 refine appC hE hgd s x ho w base sa n c _ hs hrow.2 b off m tc (rs'.flatMap Cel.enc) hx (by rw [flat_len, hl]; rfl) hn (flat_one _) hm hbase h63 hbytes ?_
 intro g cap w' h2 h3 hg h4
 have hrl := hrow.1
 refine h g cap w' ⟨rs ++ rs', ⟨by rw [List.length_append, hrl, hl], by rw [List.flatMap_append]; exact h2⟩, by rw [List.length_append, hlen, hul], fun h9 => by omega, fun i hi => ?_⟩ h3
 have key : ∀ {α : Type} [Cel α] (a' : Option Addr) (n' c' : Nat) (zs : List α), Rw w a' n' c' zs → Apt sa a' n' → Rw w' a' n' c' zs ∧ Apt (some ⟨g, 0, none⟩) a' n' := by
  intro α _ a' n' c' zs hz hzne
  have hrowne : ∀ b off, a' = some ⟨b, off, none⟩ → 0 < n' → some b ≠ (Value.slice sa n c).ownBlock := by
   intro b off ha hn e
   rcases hrow.2.2 with ⟨hv, _⟩ | ⟨g', cap', cur, hv, _⟩
   ·simp only [Value.slice.injEq] at hv; obtain ⟨rfl, _, _⟩ := hv; cases e
   ·simp only [Value.slice.injEq] at hv; obtain ⟨rfl, _, _⟩ := hv
    simp only [Value.ownBlock, Option.some.injEq] at e
    subst e
    exact hzne b off ha hn rfl
  refine ⟨hz.below (fun b off ha hn => hg.block b (hz.lt ha hn) (hrowne b off ha hn)), fun b off ha hn e => ?_⟩
  simp only [Option.some.injEq, Addr.mk.injEq, and_true] at e
  subst e
  rcases h4 with h4 | h4
  ·exact hrowne g off ha hn h4.symm
  ·have := hz.lt ha hn
   omega
 have one : ∀ (r : ChR) (t : Ch), ChO sa w r t → ChO (some ⟨g, 0, none⟩) w' r t := fun r t hr => by
  obtain ⟨⟨q1, q3⟩, q5, q6⟩ := hr
  obtain ⟨k1, k2⟩ := key _ _ _ _ q3 q6
  exact ⟨⟨q1, k1⟩, q5, k2⟩
 rcases Nat.lt_or_ge i n with hin' | hin'
 ·rw [nthR_app_left (by omega), nthC_left (by omega)]
  exact ⟨one _ _ (hvs i hin').1, (hvs i hin').2⟩
 ·rw [nthR_app_right (by omega), nthC_right hlen hin', hrl]
  exact ⟨one _ _ (hin (i - n) (by omega)).1, (hin (i - n) (by omega)).2⟩
theorem appC2 {P : Program} {T : TypeId} {z : Value} {by_ : Nat} (hE : ElS P T 90 z 2 by_) {ops : Array Oper} {rest : List Oper} {o : Oper} {a : Act} {Q : Exit → Act → World → Prop} (hgd : o.guard = none) (s x : Operand)
  (ho : o.op = .call { callee := .builtin .append, args := #[s, x], argTypes := #[T, T] })
  (w : World) (base : Nat) (sa : Option Addr) (n c : Nat) (ts : List Ch) (hs : a.eval s = .slice sa n c) (hown : OwC2 base w sa n c ts)
  (ta : Option Addr) (m tc B' : Nat) (us : List Ch) (hx : a.eval x = .slice ta m tc) (hown2 : OwC2 B' w ta m tc us) (hfar : ∀ g, sa = some ⟨g, 0, none⟩ → g < B') (hBB : base ≤ B')
  (hbase : base ≤ w.heap.size) (h63 : n + m ≤ maxLen) (hbytes : (n + m) * by_ ≤ 140737488355328)
  (h : ∀ a' cap w', OwC2 base w' a' (n + m) cap (ts ++ us) → Below base w w' → wpList P ops Q rest (a.put o.dst (.slice a' (n + m) cap)) w') :
  wpList P ops Q (o :: rest) a w := by
 obtain ⟨rs2, hrow2, hlen2, hno2, hvs2⟩ := hown2
 rcases Nat.eq_zero_or_pos m with hm | hm
 ·subst hm
  obtain rfl := hno2 rfl
  obtain rfl : us = [] := List.eq_nil_of_length_eq_zero hlen2
  simp only [List.append_nil, Nat.add_zero] at h
  obtain ⟨hT, hI, hzs, hsz⟩ := hE
  obtain ⟨i, hi, hz, hsz', hby⟩ := info_parts hI
  have hown' := hown
  obtain ⟨rs, hrow, hlen, hno, hvs⟩ := hown'
  refine wpList_plain hgd fun K hK => ?_
  have hrun := run_append_none (P := P) (w := w) base T o.type 90 i 2 hT hi _ n _ hrow.2 tc
  unfold Oper.wp
  simp [execOp, ho, resolve, invoke, builtin, hs, hx, hrun, Result.andThen]
  exact hK _ _ (h sa c w hown (Below.refl _ _))
 ·obtain ⟨g, cur, rfl, hg, _, _, _, _, ht⟩ := hrow2.row hm
  have hr : w.rangeAt g 0 (rs2.flatMap Cel.enc) := fun j v hv => by
   rw [Nat.zero_add]
   refine Bk.c hg j v ?_
   rw [← ht, List.getElem?_take] at hv
   split at hv
   ·simpa using hv
   ·cases hv
  refine appCh2 hE hgd s x ho w base sa n c ts hs hown g 0 m tc us rs2 hx hrow2.1 hlen2 hr (fun i hi => ?_) hm hbase h63 hbytes fun g cap w' h1 h2 => h _ cap w' h1 h2
  obtain ⟨q1, q2⟩ := hvs2 i hi
  exact ⟨⟨q1.l, q1.ok, fun b off e h0 e2 => by have := hfar b e2; have := q2 b off e; omega⟩, fun b off e => Nat.le_trans hBB (q2 b off e)⟩
open Go.RowKit Go.Sort
def keepsG (lose : List Nat) (listed : Nat → Bool) (i : Nat) (vs : List Value) (W W' : World) : Nat → List (RelL Ext) → Prop
 | _, [] => True
 | k, r :: R => (lose.contains k = false → listed k = true → k ≠ i → r.r (refV vs r.ref) (vs.getD k undef) W → r.r (refV vs r.ref) (vs.getD k undef) W') ∧ keepsG lose listed i vs W W' (k + 1) R
theorem keepsG_at {lose : List Nat} {listed : Nat → Bool} {i : Nat} {vs : List Value} {W W' : World} : ∀ {R : List (RelL Ext)} {k : Nat}, keepsG lose listed i vs W W' k R → ∀ j r, R[j]? = some r → lose.contains (k + j) = false → listed (k + j) = true → k + j ≠ i → r.r (refV vs r.ref) (vs.getD (k + j) undef) W → r.r (refV vs r.ref) (vs.getD (k + j) undef) W'
 | [], _, _, j, r, hj, _, _, _, _ => by simp at hj
 | r0 :: R, k, h, 0, r, hj, hc, hl, hn, hr => by
  obtain rfl : r0 = r := by simpa using hj
  exact h.1 hc hl hn hr
 | r0 :: R, k, h, j + 1, r, hj, hc, hl, hn, hr => by
  have e : k + (j + 1) = k + 1 + j := by omega
  rw [e] at hc hl hn hr ⊢
  exact keepsG_at h.2 j r (by simpa using hj) hc hl hn hr
def relyQG (Q : Exit → Act → World → Prop) (I : (Nat → Bool) → World → Prop) (R : List (RelL Ext)) (lose : List Nat) (listed : Nat → Bool) (i : Nat) (fr : Bool) (vs : List Value) (a : Act) (d : Option Tmp) (r : RelL Ext) (W : World) : Exit → Act → World → Prop
 | .normal, a', W' => ∃ v, a' = a.put d v ∧ r.r (refV vs r.ref) v W' ∧ (fr = true → v = .pointer (some ⟨W.heap.size, 0, none⟩) ∧ W.heap.size < W'.heap.size) ∧ (Ext W W' ∨ (W.heap.size ≤ W'.heap.size ∧ keepsG lose listed i vs W W' 0 R)) ∧ I (updE listed i) W'
 | e, a', W' => Q e a' W'
section
variable {Q : Exit → Act → World → Prop} {I : (Nat → Bool) → World → Prop} {R : List (RelL Ext)} {lose : List Nat} {listed : Nat → Bool} {i : Nat} {vs : List Value} {a : Act} {d : Option Tmp} {r : RelL Ext} {W W' : World} {a' : Act}
theorem relyG_done (v : Value) (h1 : a' = a.put d v) (h2 : r.r (refV vs r.ref) v W') (h3 : Ext W W') (h4 : I (updE listed i) W') : relyQG Q I R lose listed i false vs a d r W .normal a' W' :=
 ⟨v, h1, h2, fun h => (by cases h), .inl h3, h4⟩
theorem relyG_store (v : Value) (h1 : a' = a.put d v) (h2 : r.r (refV vs r.ref) v W') (h5 : W.heap.size ≤ W'.heap.size) (h3 : keepsG lose listed i vs W W' 0 R) (h4 : I (updE listed i) W') : relyQG Q I R lose listed i false vs a d r W .normal a' W' :=
 ⟨v, h1, h2, fun h => (by cases h), .inr ⟨h5, h3⟩, h4⟩
end
def losesOk (n : Nat) (deps reads loses : List (List Nat)) (left : List Nat) : Bool :=
 ((List.range n).all fun m => (loses.getD m []).all fun j => j == m || (List.range n).all fun k => !(reads.getD k []).contains j || k == m || (deps.getD m []).contains k) &&
 left.all fun i => decide (i < n) && (List.range n).all fun m => m == i || !(loses.getD m []).contains i
theorem left_lt {n : Nat} {deps reads loses : List (List Nat)} {left : List Nat} (h : losesOk n deps reads loses left = true) {i : Nat} (hi : i ∈ left) : i < n := by
 simp only [losesOk, Bool.and_eq_true, List.all_eq_true, decide_eq_true_eq] at h
 exact (h.2 i hi).1
theorem left_no {n : Nat} {deps reads loses : List (List Nat)} {left : List Nat} (h : losesOk n deps reads loses left = true) {i m : Nat} (hi : i ∈ left) (hm : m < n) (hne : m ≠ i) : i ∉ loses.getD m [] := by
 simp only [losesOk, Bool.and_eq_true, List.all_eq_true, List.mem_range, Bool.or_eq_true, beq_iff_eq, Bool.not_eq_true'] at h
 have := (h.2 i hi).2 m hm
 rcases this with h1 | h1
 ·exact absurd h1 hne
 ·intro h2
  rw [List.contains_iff_mem.2 h2] at h1; cases h1
theorem lose_ok {n : Nat} {deps reads loses : List (List Nat)} {left : List Nat} (h : losesOk n deps reads loses left = true) {i j m : Nat} (hm : m < n) (hj : j ∈ loses.getD m []) (hne : m ≠ j) (hi : i < n) (hr : j ∈ reads.getD i []) : i = m ∨ i ∈ deps.getD m [] := by
 simp only [losesOk, Bool.and_eq_true, List.all_eq_true, List.mem_range, Bool.or_eq_true, beq_iff_eq, Bool.not_eq_true'] at h
 rcases h.1 m hm j hj with h1 | h1
 ·exact absurd h1.symm hne
 ·rcases h1 i hi with (h2 | h2) | h2
  ·rw [List.contains_iff_mem.2 hr] at h2; cases h2
  ·exact .inl h2
  ·exact .inr (List.contains_iff_mem.1 h2)
theorem getD_set_self' {listed : Array Bool} {i : Nat} (h : i < listed.size) : (listed.setIfInBounds i true).getD i false = true := by simp [h]
def stepsG (P : Program) (Q : Exit → Act → World → Prop) (I : (Nat → Bool) → World → Prop) (a : Act) (ops : Array Oper) (n : Nat) (dsts : List (Option Tmp)) (R : List (RelL Ext)) (DP LS : List (List Nat)) (fresh : List Bool) : Nat → List Oper → List (Option Tmp) → List (RelL Ext) → List (List Nat) → List (List Nat) → List Bool → Prop
 | i, o :: l, d :: ds, r :: rs, read :: reads, dep :: deps, fr :: frs =>
  (∀ listed vs W, vs.length = n → I listed W → factsL R vs W read → (∀ j ∈ dep, listed j = true) → distD fresh listed vs → (∀ j, listed j = true → i ∉ DP.getD j []) → listed i = false → (∀ j d v, listed j = false → dsts[j]? = some d → vs[j]? = some v → v = slotOf a d) → wpList P ops (relyQG Q I R (LS.getD i []) listed i fr vs (putAll a dsts vs) d r W) [o] (putAll a dsts vs) W) ∧ stepsG P Q I a ops n dsts R DP LS fresh (i + 1) l ds rs reads deps frs
 | _, [], [], [], [], [], [] => True
 | _, _, _, _, _, _, _ => False
section
variable {P : Program} {Q : Exit → Act → World → Prop} {I : (Nat → Bool) → World → Prop} {a : Act} {ops : Array Oper} {n : Nat} {dsts : List (Option Tmp)} {R : List (RelL Ext)} {DP LS : List (List Nat)} {fresh : List Bool}
theorem stepsG_cons {i : Nat} {o : Oper} {l : List Oper} {d : Option Tmp} {ds : List (Option Tmp)} {r : RelL Ext} {rs : List (RelL Ext)} {read : List Nat} {reads : List (List Nat)} {dep : List Nat} {deps : List (List Nat)} {fr : Bool} {frs : List Bool}
  (h1 : ∀ listed vs W, vs.length = n → I listed W → factsL R vs W read → (∀ j ∈ dep, listed j = true) → distD fresh listed vs → (∀ j, listed j = true → i ∉ DP.getD j []) → listed i = false → (∀ j d v, listed j = false → dsts[j]? = some d → vs[j]? = some v → v = slotOf a d) → wpList P ops (relyQG Q I R (LS.getD i []) listed i fr vs (putAll a dsts vs) d r W) [o] (putAll a dsts vs) W) (h2 : stepsG P Q I a ops n dsts R DP LS fresh (i + 1) l ds rs reads deps frs) :
  stepsG P Q I a ops n dsts R DP LS fresh i (o :: l) (d :: ds) (r :: rs) (read :: reads) (dep :: deps) (fr :: frs) := ⟨h1, h2⟩
theorem stepsG_at : ∀ {l : List Oper} {ds : List (Option Tmp)} {rs : List (RelL Ext)} {reads deps : List (List Nat)} {frs : List Bool} {k : Nat}, stepsG P Q I a ops n dsts R DP LS fresh k l ds rs reads deps frs → ∀ (i : Nat) (o : Oper), l[i]? = some o →
      ∃ d r, ds[i]? = some d ∧ rs[i]? = some r ∧ ∀ listed vs W, vs.length = n → I listed W → factsL R vs W (reads.getD i []) → (∀ j ∈ deps.getD i [], listed j = true) → distD fresh listed vs → (∀ j, listed j = true → k + i ∉ DP.getD j []) → listed (k + i) = false → (∀ j d v, listed j = false → dsts[j]? = some d → vs[j]? = some v → v = slotOf a d) → wpList P ops (relyQG Q I R (LS.getD (k + i) []) listed (k + i) (frs.getD i false) vs (putAll a dsts vs) d r W) [o] (putAll a dsts vs) W
  | o :: l, d :: ds, r :: rs, read :: reads, dep :: deps, fr :: frs, k, h, 0, o', ho => by
    obtain rfl : o = o' := by simpa using ho
    exact ⟨d, r, rfl, rfl, by simpa using h.1⟩
  | o :: l, d :: ds, r :: rs, read :: reads, dep :: deps, fr :: frs, k, h, i + 1, o', ho => by
    obtain ⟨d', r', h1, h2, h3⟩ := stepsG_at h.2 i o' (by simpa using ho)
    refine ⟨d', r', by simpa using h1, by simpa using h2, ?_⟩
    rw [show k + (i + 1) = k + 1 + i by omega]
    simpa using h3
  | [], [], [], [], [], [], _, _, i, o', ho => by simp at ho
end
structure RelyInvG (I : (Nat → Bool) → World → Prop) (a0 : Act) (ops : Array Oper) (dsts : List (Option Tmp)) (R : List (RelL Ext)) (deps loses : List (List Nat)) (fresh : List Bool) (listed : Array Bool) (a : Act) (W : World) (vs : List Value) : Prop where
 size : listed.size = ops.size
 inv : I (fun k => listed.getD k false) W
 len : vs.length = dsts.length
 act : a = putAll a0 dsts vs
 done : ∀ i, listed.getD i false = true → (∀ m, listed.getD m false = true → m ≠ i → i ∉ loses.getD m []) → atL R vs W i
 dep : ∀ i, listed.getD i false = true → ∀ j ∈ deps.getD i [], listed.getD j false = true
 fr : ∀ i, fresh.getD i false = true → listed.getD i false = true → ∃ b, vs.getD i undef = .pointer (some ⟨b, 0, none⟩) ∧ b < W.heap.size
 dist : distD fresh (fun i => listed.getD i false) vs
 orig : ∀ i d v, listed.getD i false = false → dsts[i]? = some d → vs[i]? = some v → v = slotOf a0 d
theorem wpAny_relyG {P : Program} {Q : Exit → Act → World → Prop} {I : (Nat → Bool) → World → Prop} {a0 : Act} {l : List Oper} {dsts : List (Option Tmp)} {R : List (RelL Ext)} {deps reads loses : List (List Nat)} {left : List Nat} {refs : List (Option Nat)} {fresh : List Bool}
  (hB : relyBD l.toArray dsts deps reads refs = true) (hL : losesOk l.length deps reads loses left = true) (hrefs : R.map (·.ref) = refs) (hstep : stepsG P Q I a0 l.toArray dsts.length dsts R deps loses fresh 0 l dsts R reads deps fresh)
  (hend : ∀ listed vs W, vs.length = dsts.length → (∀ i, i < l.length → listed i = true) → I listed W → (∀ i ∈ left, atL R vs W i) → distD fresh (fun i => decide (i < l.length)) vs → Q .normal (putAll a0 dsts vs) W) :
  ∀ (fuel : Nat) (listed : Array Bool) (a : Act) (W : World) (vs : List Value), listed.toList.count false = fuel → RelyInvG I a0 l.toArray dsts R deps loses fresh listed a W vs → wpAny P .any l.toArray Q fuel listed a W := by
 have lt_of_listed : ∀ (listed : Array Bool) (a : Act) (W : World) (vs : List Value), RelyInvG I a0 l.toArray dsts R deps loses fresh listed a W vs → ∀ m, listed.getD m false = true → m < l.length := by
  intro listed a W vs inv m hm
  rcases Nat.lt_or_ge m listed.size with h | h
  ·rw [inv.size] at h; simpa using h
  ·simp [Array.getElem?_eq_none h] at hm
 have fin : ∀ (listed : Array Bool) (a : Act) (W : World) (vs : List Value), RelyInvG I a0 l.toArray dsts R deps loses fresh listed a W vs → Region.ready .any l.toArray listed = [] → Q .normal a W := by
  intro listed a W vs inv hr
  have hall := all_listedD hB inv.size hr
  rw [inv.act]
  refine hend (fun k => listed.getD k false) vs W inv.len (fun i hi => hall i (by simpa using hi)) inv.inv (fun i hi => inv.done i (hall i (by simpa using left_lt hL hi)) (fun m hm hmi => left_no hL hi (lt_of_listed listed a W vs inv m hm) hmi)) (fun j k h1 h2 h3 h4 h5 => inv.dist j k h1 h2 h3 (hall j (by simpa using h4)) (hall k (by simpa using h5)))
 intro fuel
 induction fuel with
 | zero =>
  intro listed a W vs hc inv
  have hr : Region.ready .any l.toArray listed = [] := by
   apply List.eq_nil_iff_forall_not_mem.2
   intro i hi
   have := count_set (mem_ready.1 hi).1
   omega
  exact ⟨hr, fin listed a W vs inv hr⟩
 | succ fuel ih =>
  intro listed a W vs hc inv
  refine ⟨fin listed a W vs inv, fun i hi => ?_⟩
  obtain ⟨hun, o, ho, hall⟩ := mem_ready.1 hi
  have hil : i < l.length := by have := (Array.getElem?_eq_some_iff.1 ho).1; simpa using this
  have ho' : l[i]? = some o := by simpa using ho
  obtain ⟨d, r, hd, hr, hst⟩ := stepsG_at hstep i o ho'
  rw [Nat.zero_add] at hst
  have hB' := hB
  simp only [relyBD, Bool.and_eq_true, List.all_eq_true, List.mem_range, decide_eq_true_eq] at hB'
  obtain ⟨⟨hB1, hB2⟩, hB3⟩ := hB'
  have hB4 := hB1 i (by simpa using hil)
  rw [ho] at hB4
  simp only [Bool.and_eq_true, List.all_eq_true] at hB4
  obtain ⟨⟨⟨_, hdep⟩, hread⟩, hrefi⟩ := hB4
  have hdst : o.dst = d := by
   have : (l.map (·.dst))[i]? = some d := by rw [show l.map (·.dst) = dsts from by simpa using hB2]; exact hd
   simpa [ho'] using this
  have hdepl : ∀ j ∈ deps.getD i [], listed.getD j false = true := by
   intro j hj
   obtain ⟨e, he, hb⟩ := Array.any_eq_true'.1 (hdep j hj)
   simp only [Bool.and_eq_true, Bool.or_eq_true, beq_iff_eq] at hb
   have h1 := hall e he hb.1
   rcases hb.2 with h2 | h2
   ·rw [← h2]; exact h1
   ·exact inv.dep _ h1 j (by simpa using h2)
  have hw := hst (fun k => listed.getD k false) vs W inv.len inv.inv (factsL_of fun j hj => inv.done j (hdepl j (by simpa using hread j hj)) (fun m hm hmj hjm => by
   rcases lose_ok hL (lt_of_listed listed a W vs inv m hm) hjm hmj hil hj with h | h
   ·subst h; rw [getD_both hun] at hm; cases hm
   ·have := inv.dep m hm i h; rw [getD_both hun] at this; cases this)) hdepl inv.dist (fun j hj hij => by have := inv.dep j hj i hij; rw [getD_both hun] at this; cases this) (getD_both hun) inv.orig
  rw [← inv.act] at hw
  have hrefr : ∀ k r', R[k]? = some r' → r'.ref = refs.getD k none := by
   intro k r' hk
   rw [← hrefs, List.getD_eq_getElem?_getD, List.getElem?_map, hk]; rfl
  have key : ∀ a' W', relyQG Q I R (loses.getD i []) (fun k => listed.getD k false) i (fresh.getD i false) vs a d r W .normal a' W' → wpAny P .any l.toArray Q fuel (listed.setIfInBounds i true) a' W' := by
   rintro a' W' ⟨v, h1, h2, hfr, h3, h4⟩
   have hvi : i < vs.length := by rw [inv.len]; exact (List.getElem?_eq_some_iff.1 hd).1
   have hsz : W.heap.size ≤ W'.heap.size := by
    rcases h3 with h | h
    ·exact h.sz
    ·exact h.1
   have hupd : updE (fun k => listed.getD k false) i = fun k => (listed.setIfInBounds i true).getD k false := by
    funext k
    unfold updE
    by_cases hik : i = k
    ·subst hik
     have hsz : i < listed.size := by rw [inv.size]; simpa using hil
     simp [hsz]
    ·rw [getD_set_ne false hik]
     have : (k == i) = false := by simp; omega
     rw [this, Bool.or_false]
   rw [hupd] at h4
   refine ih _ a' W' (vs.set i v) (by have := count_set hun; omega) ⟨by simp [inv.size], h4, by simp [inv.len], ?_, fun k hk hcond => ?_, fun k hk j hj => ?_, fun k hkf hk => ?_, fun j k hjf hkf hjk hj hk => ?_, fun k d' v' hk hd' hv' => ?_⟩
   ·rw [h1, inv.act]
    exact putAll_put a0 dsts vs i d v hB3 inv.len hd
   ·by_cases hik : i = k
    ·subst hik
     unfold atL
     rw [hr, List.getElem?_set_self hvi]
     have hne : r.ref ≠ some i := by
      intro e
      have h5 := hrefr i r hr
      rw [e] at h5
      rw [← h5] at hrefi
      have := hdepl i (by simpa using hrefi)
      rw [getD_both hun] at this; cases this
     show r.r (refV (vs.set i v) r.ref) v W'
     rw [refV_set hne]
     exact h2
    ·rw [getD_set_ne false hik] at hk
     have hno : (loses.getD i []).contains k = false := by
      have h9 := hcond i (getD_set_self' (by rw [inv.size]; simpa using hil)) hik
      simpa using h9
     have := inv.done k hk (fun m hm hmk => hcond m (getD_set_true hm) hmk)
     unfold atL at this ⊢
     rw [List.getElem?_set_ne hik]
     split
     ·rename_i r' u h5 h6
      rw [h5, h6] at this
      have hne : r'.ref ≠ some i := by
       intro e
       have hkl := lt_of_listed listed a W vs inv k hk
       have h7 := hB1 k (by simpa using hkl)
       have hok : l.toArray[k]? = some (l[k]'hkl) := by simp [hkl]
       rw [hok] at h7
       simp only [Bool.and_eq_true] at h7
       have h8 := h7.2
       rw [← hrefr k r' h5, e] at h8
       have := inv.dep k hk i (by simpa using h8)
       rw [getD_both hun] at this; cases this
      rw [refV_set hne]
      rcases h3 with h3 | h3
      ·exact r'.stab _ u W W' this h3
      ·have hu : vs.getD k undef = u := by rw [List.getD_eq_getElem?_getD, h6]; rfl
       have := keepsG_at h3.2 k r' h5 (by rw [Nat.zero_add]; exact hno) (by simpa using hk) (by omega) (by rw [Nat.zero_add, hu]; exact this)
       rwa [Nat.zero_add, hu] at this
     ·trivial
   ·by_cases hik : i = k
    ·subst hik
     exact getD_set_true (hdepl j hj)
    ·rw [getD_set_ne false hik] at hk
     exact getD_set_true (inv.dep k hk j hj)
   ·by_cases hik : i = k
    ·subst hik
     obtain ⟨e1, e2⟩ := hfr hkf
     exact ⟨_, by rw [getD_set_self hvi, e1], e2⟩
    ·rw [getD_set_ne false hik] at hk
     obtain ⟨b, e1, e2⟩ := inv.fr k hkf hk
     exact ⟨b, by rw [getD_set_other hik, e1], by omega⟩
   ·have hfresh : ∀ m, fresh.getD m false = true → i ≠ m → listed.getD m false = true → fresh.getD i false = true → v ≠ vs.getD m undef := by
     intro m hm him hlm hfi e
     obtain ⟨e1, _⟩ := hfr hfi
     obtain ⟨b, e3, e4⟩ := inv.fr m hm hlm
     rw [e1, e3] at e
     injection e with e
     injection e with e
     injection e with e
     omega
    by_cases hij : i = j
    ·subst hij
     rw [getD_set_self hvi, getD_set_other hjk]
     replace hk : (listed.setIfInBounds i true).getD k false = true := hk
     rw [getD_set_ne false hjk] at hk
     exact hfresh k hkf hjk hk hjf
    ·by_cases hik : i = k
     ·subst hik
      rw [getD_set_self hvi, getD_set_other hij]
      replace hj : (listed.setIfInBounds i true).getD j false = true := hj
      rw [getD_set_ne false hij] at hj
      exact fun e => hfresh j hjf hij hj hkf e.symm
     ·rw [getD_set_other hij, getD_set_other hik]
      replace hk : (listed.setIfInBounds i true).getD k false = true := hk
      replace hj : (listed.setIfInBounds i true).getD j false = true := hj
      rw [getD_set_ne false hik] at hk
      rw [getD_set_ne false hij] at hj
      exact inv.dist j k hjf hkf hjk hj hk
   ·by_cases hik : i = k
    ·subst hik
     have hsz : i < listed.size := by rw [inv.size]; simpa using hil
     simp [hsz] at hk
    ·rw [getD_set_ne false hik] at hk
     rw [List.getElem?_set_ne hik] at hv'
     exact inv.orig k d' v' hk hd' hv'
  unfold wpOp
  simp only [ho]
  unfold wpList at hw
  split
  ·rename_i hwd
   rw [if_pos hwd] at hw
   rcases hw with hw | ⟨hw, hlo⟩
   ·left
    unfold Oper.wp at hw ⊢
    generalize (execOp a.eval o).run P W = res at *
    cases res with
    | ok n w' =>
     cases n <;> simp only [Oper.upon] at hw ⊢ <;>
      first
       | exact key _ _ hw
       | exact Calls.mono hw (fun e w'' he => by cases e <;> first | exact key _ _ he | exact he)
       | exact Rows.mono hw (fun _ _ he => key _ _ he)
    | halt x w' => cases x <;> simp only [Oper.upon] at hw ⊢ <;> exact hw
   ·right
    obtain ⟨a', w', hq⟩ := hlo
    exact ⟨hw, a', w', hq⟩
  ·rename_i hwd
   rw [if_neg hwd] at hw
   exact key _ _ hw
theorem region_relyG {P : Program} {id : Nat} {Q : Exit → Act → World → Prop} {a : Act} {w : World} {l : List Oper} (I : (Nat → Bool) → World → Prop) (dsts : List (Option Tmp)) (deps reads : List (List Nat)) (refs : List (Option Nat)) (fresh : List Bool) (loses : List (List Nat)) (left : List Nat) (R : List (RelL Ext))
  (hm : P.follows .mixedOrders = true) (hB : relyBD l.toArray dsts deps reads refs = true) (hL : losesOk l.length deps reads loses left = true) (hrefs : R.map (·.ref) = refs) (hI : I (fun _ => false) { w with drawn := w.drawn + 1 })
  (hstep : stepsG P Q I a l.toArray dsts.length dsts R deps loses fresh 0 l dsts R reads deps fresh)
  (hend : ∀ listed vs W, vs.length = dsts.length → (∀ i, i < dsts.length → listed i = true) → I listed W → factsL R vs W left → distD fresh (fun i => decide (i < dsts.length)) vs → Q .normal (putAll a dsts vs) W) : (Code.region id l.toArray true).wp P Q a w := by
 refine wp_region_any hm ?_
 have hB2 : l.map (·.dst) = dsts := by
  have := hB
  simp only [relyBD, Bool.and_eq_true, decide_eq_true_eq] at this
  simpa using this.1.2
 have hlen : l.length = dsts.length := by rw [← hB2]; simp
 refine wpAny_relyG (I := I) (a0 := a) (R := R) hB hL hrefs hstep (fun listed vs W h1 h0 h2 h3 h4 => hend listed vs W h1 (by rw [← hlen]; exact h0) h2 (factsL_of fun i hi => h3 i hi) (by rw [← hlen]; exact h4)) _ _ a _ (dsts.map (slotOf a)) (by simp) ⟨by simp, (show (fun k => (Array.replicate l.toArray.size false).getD k false) = fun _ => false from funext fun k => getD_replicate_false _ _) ▸ hI, by simp, (putAll_orig a dsts).symm, fun i hi _ => ?_, fun i hi => ?_, fun i _ hi => ?_, fun i j _ _ _ hi => ?_, fun i d v _ h1 h2 => ?_⟩
 ·rw [getD_replicate_false] at hi; cases hi
 ·rw [getD_replicate_false] at hi; cases hi
 ·rw [getD_replicate_false] at hi; cases hi
 ·replace hi : (Array.replicate l.toArray.size false).getD i false = true := hi
  rw [getD_replicate_false] at hi; cases hi
 ·rw [List.getElem?_map, h1] at h2; simpa using h2.symm
end Go.Proofs.YtacicanjmleikaaGreatDoor
