/-
  One office with one head: what Find finds, what Check says of it, what Forks says of two heads.
-/
import Derived.Test.YtacicanjmleikaaGreatDoorUFG
namespace Go.Proofs.YtacicanjmleikaaGreatDoor
open Go.RowKit Go.Sort Go.Shelf Go.Maps
set_option linter.unusedSimpArgs false
set_option linter.unusedVariables false
set_option maxRecDepth 100000

theorem r25few_any (id : Int) (a : Option Addr) (n c : Nat) (w : World) (hn : n ≤ 9223372036854775807) :
    Calls Tryz.prog 7 #[.agg #[.int .i64 id, .slice a n c]] w fun e w' => e = .returned (.bool (decide (n ≤ 40))) ∧ Ext w w' := by
  have hx0 : Ext w (w.alloc (.cells #[.int .i64 id, .slice a n c] 24)) := (Ext.refl w).alloc _
  go_enter Tryz.func7, Tryz.ntmps7
  go_wp2_with fail
  go_ret
  exact ⟨ret_bool (by rw [Bool.eq_iff_iff]; simp; omega), hx0⟩

/-- The public key of a secret. -/
def pubO (key : Nat) : Int := ((pw 2147483579 4 key : Nat) : Int)
theorem pubO_ok {key : Nat} (hk : Sec key) : PubK (pubO key) := by
  refine ⟨fun e => ?_, memB_pw key⟩
  have e1 : pw 2147483579 4 key = 1 := by unfold pubO at e; omega
  rw [pw_def] at e1
  have h0 : (4 : Nat) ^ key % pP = 4 ^ 0 % pP := by rw [show pP = 2147483579 from rfl, e1]
  have := Elem.inj Elem.gen (by decide) (r := key) (s := 0) hk.lt (by decide) h0
  have := hk.lo
  omega
theorem sg_ok {id : Int} {es : List En} {m key once : Nat} (hid : 1 ≤ id ∧ id ≤ 16) (h1 : 1 ≤ m) (hm : m ≤ 4096) (hk : Sec key) (ho : Sec once) : (sgHd id es m key once).Ok := by
  have hr := root_rng (vals (es.take m))
  obtain ⟨c, e1, e2, e3⟩ := sgS_ok hk ho (msgH id m (rootT (vals (es.take m))))
  have hc := sgC_ok hk ho (msgH id m (rootT (vals (es.take m))))
  refine ⟨hid, ?_, hr, ?_, ?_⟩
  · show 1 ≤ (m : Int) ∧ (m : Int) ≤ 4096
    omega
  · show 0 ≤ sgC key once (msgH id m (rootT (vals (es.take m)))) ∧ sgC key once (msgH id m (rootT (vals (es.take m)))) ≤ 1073741788
    rw [hc, e1]
    omega
  · show 0 ≤ sgS key once (msgH id m (rootT (vals (es.take m)))) ∧ sgS key once (msgH id m (rootT (vals (es.take m)))) ≤ 1073741788
    rw [e3]
    omega
theorem sg_right (id : Int) (es : List En) (m : Nat) {key once : Nat} (hk : Sec key) (ho : Sec once) : rightH (pubO key) (sgHd id es m key once) = true := by
  show verB ((pw 2147483579 4 key : Nat) : Int) (sgC key once (msgH id m (rootT (vals (es.take m))))) (sgS key once (msgH id m (rootT (vals (es.take m))))) (msgH id m (rootT (vals (es.take m)))) = true
  rw [(verB_sign hk ho _ _).1, beq_self_eq_true]
theorem Rw.oneO {w : World} {vb : Nat} {T : TypeId} {x : OfR} (hx : (Lit.int .i64 x.id).wf = true) (hb : Bk w vb T #[.int .i64 x.id, .slice x.a x.n x.c]) : Rw w (some ⟨vb, 0, none⟩) 1 1 [x] := by
  refine ⟨rfl, Nat.le_refl _, by unfold maxLen; omega, by omega, fun i hi => ⟨vb, 0, rfl, ?_⟩, fun y hy => ?_⟩
  · obtain rfl : i = 0 := by omega
    intro j v hv
    rw [Nat.zero_mul]
    simp only [Nat.zero_add]
    exact hb.c j v (by rw [← hv]; simp [nthR, Cel.enc, OfR.enc])
  · rw [List.mem_singleton.1 hy]; exact hx
/-- What Find is asked of one office with one head of its whole log. -/
structure Solo (w : World) (id : Int) (a : Option Addr) (n c : Nat) (es : List En) (key once : Nat) : Prop where
  row : Rw w a n c es
  off : offB id es = true
  pos : 1 ≤ n
  key_ : Sec key
  once_ : Sec once
theorem Solo.ext {w w' : World} {id : Int} {a : Option Addr} {n c : Nat} {es : List En} {key once : Nat} (h : Solo w id a n c es key once) (hx : Ext w w') : Solo w' id a n c es key once :=
  ⟨h.row.ext hx, h.off, h.pos, h.key_, h.once_⟩
theorem Solo.n4 {w : World} {id : Int} {a : Option Addr} {n c : Nat} {es : List En} {key once : Nat} (h : Solo w id a n c es key once) : n ≤ 4096 := by
  rw [← h.row.hlen]; exact (offB_iff.1 h.off).2.1
theorem Solo.ok {w : World} {id : Int} {a : Option Addr} {n c : Nat} {es : List En} {key once : Nat} (h : Solo w id a n c es key once) : (sgHd id es n key once).Ok :=
  sg_ok (offB_iff.1 h.off).1 h.pos h.n4 h.key_ h.once_
theorem Solo.all {w : World} {id : Int} {a : Option Addr} {n c : Nat} {es : List En} {key once : Nat} (h : Solo w id a n c es key once) : es.take n = es := List.take_of_length_le (by rw [h.row.hlen]; exact Nat.le_refl _)
/-- What Find answers of it. -/
def FndP (w : World) (id : Int) (n : Nat) (es : List En) (key once i k : Nat) : Ending → World → Prop := fun e w' =>
  ∃ pa pn pc qa qn qc, e = .returned (.tuple #[prV ⟨sgHd id es n key once, i, nthR es i, pa, pn, pc⟩ ⟨sgHd id es n key once, k, nthR es k, qa, qn, qc⟩ none 0 0, .bool true, .int .i64 0]) ∧
    Sl .u64 w' pa pn pc (inclT (vals (es.take n)) i) ∧ Sl .u64 w' qa qn qc (inclT (vals (es.take n)) k) ∧ Ext w w'
theorem find_solo {w : World} {id : Int} {a : Option Addr} {n c : Nat} {es : List En} {key once : Nat} (H : Solo w id a n c es key once) {ob hb : Nat} {TO : TypeId} (ho : Bk w ob TO #[.int .i64 id, .slice a n c])
    (hh : Bk w hb 34 #[.int .i64 (sgHd id es n key once).o, .int .i64 (sgHd id es n key once).s, .int .u64 (sgHd id es n key once).r, .int .i64 (sgHd id es n key once).C, .int .i64 (sgHd id es n key once).S])
    {i k : Nat} (hik : i < k) (hk : k < n) (ht : TB w) :
    Calls Tryz.prog 12 #[.slice (some ⟨ob, 0, none⟩) 1 1, .slice (some ⟨hb, 0, none⟩) 1 1, .int .i64 id, .int .i64 i, .int .i64 id, .int .i64 k] w (FndP w id n es key once i k) := by
  have hid := (offB_iff.1 H.off).1
  have n4 := H.n4
  have HA : ArcIn w (some ⟨ob, 0, none⟩) 1 1 [⟨id, a, n, c⟩] (fun _ => es) (some ⟨hb, 0, none⟩) 1 1 [sgHd id es n key once] := by
    refine ⟨Rw.oneO (x := ⟨id, a, n, c⟩) (by simp [Lit.wf, IntKind.min, IntKind.max, IntKind.bits, IntKind.signed]; omega) ho, by omega, fun j hj => ?_, fun j hj i hi => by omega, Rw.oneH H.ok hh, by omega⟩
    obtain rfl : j = 0 := by omega
    exact ⟨H.row, H.off⟩
  have HL : levA [sgHd id es n key once] id i = [⟨[sgHd id es n key once], i⟩] := by
    have : starts id i (sgHd id es n key once) = true := by
      unfold starts
      rw [decide_eq_true (show (sgHd id es n key once).o = id from rfl), decide_eq_true (show (i : Int) < (sgHd id es n key once).s by show (i : Int) < (n : Int); omega)]
      rfl
    simp [levA, this]
  refine (find_one HA (fun q hq => ?_) 0 i k (by omega) (by show i < n; omega) (by show k < n; omega) (sgHd id es n key once) H.ok rfl n rfl (Nat.le_refl n) rfl (by rw [show (sgHd id es n key once).o = id from rfl, HL]; exact Nat.zero_lt_one) (by rw [show (sgHd id es n key once).o = id from rfl, HL]; rfl) (by omega) hk hik ht).mono ?_
  · obtain rfl : q = 0 := by omega
    exact ⟨0, by omega, rfl, n, rfl, Nat.le_refl n, rfl⟩
  · intro e w' h
    exact h
/-- A proof of one head, its 22 cells under a name. -/
structure PrC (CL : List Value) (h : Hd) (es : List En) (i k : Nat) (pa : Option Addr) (pn pc : Nat) (qa : Option Addr) (qn qc : Nat) : Prop where
  is_ : Value.agg CL.toArray = prV ⟨h, i, nthR es i, pa, pn, pc⟩ ⟨h, k, nthR es k, qa, qn, qc⟩ none 0 0
  len : CL.length = 22
  one : ∀ v ∈ CL, v.oneCell' = true
  fst : CL[6]? = some (.int .u64 (nthR es i).d)
  lst : CL[18]? = some (.int .u64 (nthR es k).d)
theorem prC (h : Hd) (es : List En) (i k : Nat) (pa : Option Addr) (pn pc : Nat) (qa : Option Addr) (qn qc : Nat) : ∃ CL, PrC CL h es i k pa pn pc qa qn qc :=
  ⟨[.int .i64 h.o, .int .i64 h.s, .int .u64 h.r, .int .i64 h.C, .int .i64 h.S, .int .i64 i, .int .u64 (nthR es i).d, .int .i64 (nthR es i).lo, .int .i64 (nthR es i).hi, .slice pa pn pc, .slice none 0 0, .slice none 0 0, .int .i64 h.o, .int .i64 h.s, .int .u64 h.r, .int .i64 h.C, .int .i64 h.S, .int .i64 k, .int .u64 (nthR es k).d, .int .i64 (nthR es k).lo, .int .i64 (nthR es k).hi, .slice qa qn qc], rfl, rfl, by intro v hv; simp only [List.mem_cons, List.not_mem_nil, or_false] at hv; rcases hv with rfl | rfl | rfl | rfl | rfl | rfl | rfl | rfl | rfl | rfl | rfl | rfl | rfl | rfl | rfl | rfl | rfl | rfl | rfl | rfl | rfl | rfl <;> rfl, rfl, rfl⟩
def FndQ (w : World) (h : Hd) (n : Nat) (es : List En) (i k : Nat) : Ending → World → Prop := fun e w' =>
  ∃ CL pa pn pc qa qn qc, e = .returned (.tuple #[.agg CL.toArray, .bool true, .int .i64 0]) ∧ PrC CL h es i k pa pn pc qa qn qc ∧
    Sl .u64 w' pa pn pc (inclT (vals (es.take n)) i) ∧ Sl .u64 w' qa qn qc (inclT (vals (es.take n)) k) ∧ Ext w w'
theorem fndQ {w w' : World} {id : Int} {n : Nat} {es : List En} {key once i k : Nat} {e : Ending} (h : FndP w id n es key once i k e w') : FndQ w (sgHd id es n key once) n es i k e w' := by
  obtain ⟨pa, pn, pc, qa, qn, qc, h1, h2, h3, h4⟩ := h
  obtain ⟨CL, hC⟩ := prC (sgHd id es n key once) es i k pa pn pc qa qn qc
  exact ⟨CL, pa, pn, pc, qa, qn, qc, by rw [hC.is_]; exact h1, hC, h2, h3, h4⟩
theorem find_soloQ {w : World} {id : Int} {a : Option Addr} {n c : Nat} {es : List En} {key once : Nat} (H : Solo w id a n c es key once) {ob hb : Nat} {TO : TypeId} (ho : Bk w ob TO #[.int .i64 id, .slice a n c])
    (hh : Bk w hb 34 #[.int .i64 (sgHd id es n key once).o, .int .i64 (sgHd id es n key once).s, .int .u64 (sgHd id es n key once).r, .int .i64 (sgHd id es n key once).C, .int .i64 (sgHd id es n key once).S])
    {i k : Nat} (hik : i < k) (hk : k < n) (ht : TB w) :
    Calls Tryz.prog 12 #[.slice (some ⟨ob, 0, none⟩) 1 1, .slice (some ⟨hb, 0, none⟩) 1 1, .int .i64 id, .int .i64 i, .int .i64 id, .int .i64 k] w (FndQ w (sgHd id es n key once) n es i k) :=
  (find_solo H ho hh hik hk ht).mono fun _ _ h => fndQ h
theorem inR_solo {w : World} {id : Int} {a : Option Addr} {n c : Nat} {es : List En} {key once : Nat} (H : Solo w id a n c es key once) {i : Nat} (hi : i < n) : inR (sgHd id es n key once) i (nthR es i) (inclT (vals (es.take n)) i) = true := by
  have hl : (vals es).length = n := by rw [vals_len]; exact H.row.hlen
  unfold inR
  show walkI (rootT (vals (es.take n))) (inclT (vals (es.take n)) i) (leafV (valE (nthR es i))) i ((n : Int).toNat - 1) = true
  rw [H.all, Int.toNat_natCast]
  have h := incl_right (l := vals es) (i := i) (by rw [hl]; exact hi) (by rw [hl]; exact H.n4)
  rw [hl] at h
  have e : (vals es).getD i 0 = valE (nthR es i) := by
    have hi2 : i < es.length := by rw [H.row.hlen]; exact hi
    rw [List.getD_eq_getElem?_getD, vals, List.getElem?_map, nthR_get hi2, List.getElem?_eq_getElem hi2]
    simp
  rw [e] at h
  exact h
theorem incl_short {w : World} {id : Int} {a : Option Addr} {n c : Nat} {es : List En} {key once : Nat} (H : Solo w id a n c es key once) (i : Nat) : (inclT (vals (es.take n)) i).length ≤ 12 :=
  incl_len 12 _ i (by rw [H.all, vals_len, H.row.hlen]; exact H.n4)
theorem check_solo {w : World} {id : Int} {a : Option Addr} {n c : Nat} {es : List En} {key once : Nat} (H : Solo w id a n c es key once) (h1 : id = 1) {ka : Option Addr} {kc : Nat} (hp : Sl .i64 w ka 1 kc [pubO key])
    {i k : Nat} (hik : i < k) (hk : k < n) {pa qa : Option Addr} {pn pc qn qc : Nat} (s1 : Sl .u64 w pa pn pc (inclT (vals (es.take n)) i)) (s2 : Sl .u64 w qa qn qc (inclT (vals (es.take n)) k)) (ht : TB w) :
    Calls Tryz.prog 14 #[.slice ka 1 kc, prV ⟨sgHd id es n key once, i, nthR es i, pa, pn, pc⟩ ⟨sgHd id es n key once, k, nthR es k, qa, qn, qc⟩ none 0 0] w fun e9 w' => e9 = .returned (.tuple #[.bool true, .int .i64 0]) ∧ Ext w w' := by
  subst h1
  have hst := (offB_iff.1 H.off).2.2
  rw [H.row.hlen] at hst
  have HK : Keys [pubO key] := fun x hx => by rw [List.mem_singleton.1 hx]; exact pubO_ok H.key_
  have HS : Sgn [pubO key] (sgHd 1 es n key once) := ⟨H.ok, by show (1 : Int) ≤ ((1 : Nat) : Int); omega, sg_right 1 es n H.key_ H.once_⟩
  have HR : ∀ j, j < n → ∀ xa xn xc, Sl .u64 w xa xn xc (inclT (vals (es.take n)) j) → RcOk w ka 1 kc [pubO key] (sgHd 1 es n key once) j (nthR es j) xa xn xc (inclT (vals (es.take n)) j) := fun j hj xa xn xc hs =>
    ⟨hp, by omega, HK, HS, by show (j : Int) < (n : Int); omega, H.row.wfAt hj, by have := stepsO_at hst hj; unfold stepO at this; simp only [Bool.and_eq_true] at this; exact this.1, hs, by rw [← hs.hlen]; have := incl_short H j; omega, inR_solo H hj⟩
  exact pcheck_yes (r1 := ⟨sgHd 1 es n key once, i, nthR es i, pa, pn, pc⟩) (r2 := ⟨sgHd 1 es n key once, k, nthR es k, qa, qn, qc⟩) ⟨⟨_, HR i (by omega) pa pn pc s1⟩, ⟨_, HR k hk qa qn qc s2⟩, Rw.nil w, by omega, fun q hq => by omega, rfl, hik⟩ ht
/-- The path that Forks is given. -/
def fkP (es : List En) (m : Nat) : List Int := if m < es.length then rootT (vals (es.take m)) :: extT (vals es) m else extT (vals es) m
theorem fk_solo {a : Int} {es : List En} {m : Nat} (h1 : 1 ≤ m) (hm : m ≤ es.length) (hn : es.length ≤ 4096) : fkV a (rootT (vals es)) m es.length (fkP es m) = decide (rootT (vals (es.take m)) ≠ a) := by
  have hl := vals_len es
  by_cases e : m = es.length
  · subst e
    have h := exB_same (l := vals es) (by omega) (by omega)
    rw [hl] at h
    unfold fkV fkP
    rw [if_pos rfl, if_neg (by omega), h.1, List.take_of_length_le (Nat.le_refl _)]
    simp only [List.length_nil, decide_true, Bool.true_and]
    exact decide_eq_decide.2 ⟨fun h e => h e.symm, fun h e => h e.symm⟩
  · have hlt : m < es.length := by omega
    have ht : vals (es.take m) = (vals es).take m := by simp [vals]
    have h := exB_right (l := vals es) (m := m) h1 (by omega) (by omega)
    rw [hl, exB_V h1 hm hn] at h
    unfold fkV fkP
    rw [if_neg e, if_pos hlt, if_neg (by simp), show nth (rootT (vals (es.take m)) :: extT (vals es) m) 0 = rootT (vals (es.take m)) from rfl, ht, List.drop_one, List.tail_cons, h]
    by_cases e2 : rootT ((vals es).take m) = a
    · rw [if_pos e2, decide_eq_false (by simp [e2])]
    · rw [if_neg e2, decide_eq_true e2]
theorem fkP_len {es : List En} {m : Nat} (hn : es.length ≤ 4096) : (fkP es m).length ≤ 14 := by
  have := extT_len (l := vals es) (m := m) (by rw [vals_len]; exact hn)
  unfold fkP
  split <;> simp <;> omega
theorem idxV_bd {w : World} {a : Option Addr} {n c : Nat} {es : List En} (h : Rw w a n c es) (doc : Int) : -1 ≤ idxV es doc ∧ idxV es doc < n := by
  unfold idxV
  rw [← h.hlen]
  cases e : idxOf es doc es.length with
  | none => simp only [Option.getD_none]; omega
  | some z => exact idxOf_bd e
end Go.Proofs.YtacicanjmleikaaGreatDoor
