
import Derived.Test.YtacicanjmleikaaGreatDoorGr25
import Derived.Test.YtacicanjmleikaaGreatDoorGr12
import Derived.Test.YtacicanjmleikaaGreatDoorGr2
import Derived.Deep.Slices
import Derived.SizedLaws
import Derived.WideShapes
import Derived.ChangeArms
import Derived.Test.YtacicanjmleikaaGreatDoorGr23
/- A part of the proof. -/
namespace Go.Proofs.YtacicanjmleikaaGreatDoor
open Go.RowKit Go.Sort Go.Shelf Go.Maps
set_option linter.unusedSimpArgs false
set_option linter.unusedVariables false
set_option maxRecDepth 100000
section
variable {α : Type} [Cel α]
theorem OwR.putRow {E : TypeId} {base : Nat} {W : World} {g n c : Nat} {xs : List α} (h : OwR E base W (some ⟨g, 0, none⟩) n c xs) {i : Nat} (hi : i < n) (x : α) : OwR E base (W.setCells g (i * Cel.sz α) (Cel.enc x)) (some ⟨g, 0, none⟩) n c (xs.set i x) := by
 have hl := h.1
 obtain ⟨g', cur, e, hg, hb, hle, hm, hs, ht⟩ := h.row (by omega)
 cases e
 have hil : i < xs.length := by omega
 have h1 : xs = xs.take i ++ (xs[i] :: xs.drop (i + 1)) := by rw [← List.drop_eq_getElem_cons hil, List.take_append_drop]
 have hcur : cur = (xs.take i).flatMap Cel.enc ++ (Cel.enc xs[i] ++ ((xs.drop (i + 1)).flatMap Cel.enc ++ cur.drop (n * Cel.sz α))) := by
  have h2 : cur = xs.flatMap Cel.enc ++ cur.drop (n * Cel.sz α) := by rw [← ht, List.take_append_drop]
  have h3 : xs.flatMap Cel.enc = (xs.take i).flatMap Cel.enc ++ (Cel.enc xs[i] ++ (xs.drop (i + 1)).flatMap Cel.enc) := by
   conv => lhs; rw [h1]
   rw [List.flatMap_append, List.flatMap_cons]
  rw [h3] at h2
  rw [List.append_assoc, List.append_assoc] at h2
  exact h2
 have hpl : ((xs.take i).flatMap Cel.enc).length = i * Cel.sz α := by rw [flat_len, List.length_take, Nat.min_eq_left (by omega)]
 have hB : Bk W g E ((xs.take i).flatMap Cel.enc ++ (Cel.enc xs[i] ++ ((xs.drop (i + 1)).flatMap Cel.enc ++ cur.drop (n * Cel.sz α)))).toArray := by rw [← hcur]; exact hg
 have h4 := Bk.midCells (Cel.enc x) (Cel.enc xs[i]) ((xs.take i).flatMap Cel.enc) ((xs.drop (i + 1)).flatMap Cel.enc ++ cur.drop (n * Cel.sz α)) W hB (by rw [Cel.len, Cel.len])
 rw [hpl] at h4
 have hset : xs.set i x = xs.take i ++ (x :: xs.drop (i + 1)) := by rw [List.set_eq_take_append_cons_drop, if_pos hil]
 have hfl : (xs.set i x).flatMap Cel.enc = (xs.take i).flatMap Cel.enc ++ (Cel.enc x ++ (xs.drop (i + 1)).flatMap Cel.enc) := by rw [hset, List.flatMap_append, List.flatMap_cons]
 refine OwR.ofRow (by rw [List.length_set]; exact hl) h4 hb hle hm ?_ ?_
 ·rw [← hs]
  conv => rhs; rw [hcur]
  simp only [List.length_append, Cel.len]
 ·have e5 : (xs.take i).flatMap Cel.enc ++ (Cel.enc x ++ ((xs.drop (i + 1)).flatMap Cel.enc ++ cur.drop (n * Cel.sz α))) = (xs.set i x).flatMap Cel.enc ++ cur.drop (n * Cel.sz α) := by rw [hfl]; simp only [List.append_assoc]
  rw [e5]
  exact List.take_left' (by rw [flat_len, List.length_set, hl])
end
open Go.RowKit Go.Sort Go.Shelf Go.Maps
theorem OwR.cellsTag {α : Type} [Cel α] {E T : TypeId} {base : Nat} {W : World} {a : Option Addr} {n c p : Nat} {xs : List α} (h : OwR E base W a n c xs) (hp : Tag W p T) (hne : E ≠ T) (o : Nat) (vs : List Value) : OwR E base (W.setCells p o vs) a n c xs :=
 h.blocks fun g e => heap_setCells_other p (h.tagNe hp hne g e) vs o W
theorem OwI.cellsTag {k : IntKind} {E T : TypeId} {base : Nat} {W : World} {a : Option Addr} {n c p : Nat} {xs : List Int} (h : OwI k E base W a n c xs) (hp : Tag W p T) (hne : E ≠ T) (o : Nat) (vs : List Value) : OwI k E base (W.setCells p o vs) a n c xs :=
 h.blocks fun g e => heap_setCells_other p (h.tagNe hp hne g e) vs o W
theorem Bk.cellsTag {W : World} {b p : Nat} {T T' : TypeId} {C : Array Value} (h : Bk W b T C) (hp : Tag W p T') (hne : T ≠ T') (o : Nat) (vs : List Value) : Bk (W.setCells p o vs) b T C :=
 Bk.otherCells (fun e => by
  subst e
  obtain ⟨C', fr, h2⟩ := hp
  have h3 := h.symm.trans h2
  simp only [Option.some.injEq, Obj.cells.injEq] at h3
  exact hne h3.2.1) vs o h
theorem nthR_set {α : Type} [Cel α] {xs : List α} {k j : Nat} {x : α} (hk : k < xs.length) : nthR (xs.set k x) j = if j = k then x else nthR xs j := by
 by_cases e : j = k
 ·subst e; simp [nthR, List.getD_eq_getElem?_getD, hk]
 ·rw [if_neg e]; simp [nthR, List.getD_eq_getElem?_getD, List.getElem?_set_ne (fun h => e h.symm)]
theorem PRep.log {base : Nat} {W W1 : World} {b6 key : Nat} {s : Ps} {oa : Option Addr} {oc : Nat} {ta : Option Addr} {tc : Nat} {ha : Option Addr} {hn hc : Nat} {ka : Option Addr} {kc : Nat} {os : List OfR} {ts : List TsR}
  (h : PRep base W b6 key s oa oc ta tc ha hn hc ka kc os ts) {k : Nat} (hk : k < 3) {ob tb : Nat} (hoa : oa = some ⟨ob, 0, none⟩) (hta : ta = some ⟨tb, 0, none⟩) {e : En} {t : Int} {a' : Option Addr} {c' : Nat}
  (hlog : OwR RE base W a' ((s.lg k).length + 1) c' (s.lg k ++ [e])) {xa : Option Addr} {xc : Nat} (hg : W.grownBy W1 (Value.slice (nthR ts k).a (nthR ts k).n (nthR ts k).c).ownBlock)
  (hown : OwI .i64 RI base W1 xa ((nthR ts k).n + 1) xc (s.tm k ++ [t])) (hnew : ∀ g, xa = some ⟨g, 0, none⟩ → (nthR ts k).a = some ⟨g, 0, none⟩ ∨ W.heap.size ≤ g) :
  PRep base ((W1.setCells ob (k * 2) [.int .i64 ((k : Int) + 1), .slice a' ((s.lg k).length + 1) c']).setCells tb k [.slice xa ((nthR ts k).n + 1) xc]) b6 key ⟨t, updN s.lg k (s.lg k ++ [e]), updN s.tm k (s.tm k ++ [t]), s.hs, s.st⟩
   oa oc ta tc ha hn hc ka kc (os.set k ⟨(k : Int) + 1, a', (s.lg k).length + 1, c'⟩) (ts.set k ⟨xa, (nthR ts k).n + 1, xc⟩) := by
 subst hoa hta
 have hkt := h.tms k hk
 have tg : ∀ {α : Type} [Cel α] {E : TypeId} {a : Option Addr} {n c : Nat} {xs : List α}, OwR E base W a n c xs → E ≠ RI → OwR E base W1 a n c xs := by
  intro α _ E a n c xs ho hne
  cases hta : (nthR ts k).a with
  | none => rw [hta] at hg; exact ho.growNone hg
  | some q =>
   rw [hta] at hg hkt
   obtain ⟨qb, qo, qs⟩ := q
   have hq0 : qo = 0 ∧ qs = none := by
    obtain ⟨_, h2⟩ := hkt
    rcases h2 with ⟨e2, _⟩ | ⟨g', cap, cur, hv, _⟩
    ·cases e2
    ·simp only [Value.slice.injEq, Option.some.injEq, Addr.mk.injEq] at hv; exact ⟨hv.1.2.1, hv.1.2.2⟩
   obtain ⟨rfl, rfl⟩ := hq0
   exact ho.growTag hg hkt.tag hne
 have tgi : ∀ {a : Option Addr} {n c : Nat} {xs : List Int}, OwI .i64 RI base W a n c xs → (∀ g, (nthR ts k).a = some ⟨g, 0, none⟩ → a ≠ some ⟨g, 0, none⟩) → OwI .i64 RI base W1 a n c xs := by
  intro a n c xs ho hne
  cases hta : (nthR ts k).a with
  | none => rw [hta] at hg; exact ho.growNone hg
  | some q =>
   rw [hta] at hg hkt
   obtain ⟨qb, qo, qs⟩ := q
   have hq0 : qo = 0 ∧ qs = none := by
    obtain ⟨_, h2⟩ := hkt
    rcases h2 with ⟨e2, _⟩ | ⟨g', cap, cur, hv, _⟩
    ·cases e2
    ·simp only [Value.slice.injEq, Option.some.injEq, Addr.mk.injEq] at hv; exact ⟨hv.1.2.1, hv.1.2.2⟩
   obtain ⟨rfl, rfl⟩ := hq0
   exact ho.growNe hg (hne qb hta)
 have hb : Bk W1 b6 RPs #[.slice (some ⟨ob, 0, none⟩) 3 oc, .slice (some ⟨tb, 0, none⟩) 3 tc, .slice ha hn hc, .slice ka 3 kc] := by
  cases hta : (nthR ts k).a with
  | none => rw [hta] at hg; exact (hg.block b6 h.blk.lt (fun e2 => by cases e2)).trans h.blk
  | some q =>
   rw [hta] at hg hkt
   obtain ⟨qb, qo, qs⟩ := q
   have hq0 : qo = 0 ∧ qs = none := by
    obtain ⟨_, h2⟩ := hkt
    rcases h2 with ⟨e2, _⟩ | ⟨g', cap, cur, hv, _⟩
    ·cases e2
    ·simp only [Value.slice.injEq, Option.some.injEq, Addr.mk.injEq] at hv; exact ⟨hv.1.2.1, hv.1.2.2⟩
   obtain ⟨rfl, rfl⟩ := hq0
   exact h.blk.growTag hg hkt.tag (by decide)
 have hol : os.length = 3 := h.off.1
 have htl : ts.length = 3 := h.tim.1
 have o1 := tg h.off (by decide)
 have t1 := tg h.tim (by decide)
 have tob := o1.tag
 have o2 := o1.putRow hk (⟨(k : Int) + 1, a', (s.lg k).length + 1, c'⟩ : OfR)
 have t2 := t1.cellsTag tob (by decide) (k * 2) [.int .i64 ((k : Int) + 1), .slice a' ((s.lg k).length + 1) c']
 have tt := t2.tag
 have t3 := t2.putRow hk (⟨xa, (nthR ts k).n + 1, xc⟩ : TsR)
 have both : ∀ {α : Type} [Cel α] {E : TypeId} {a : Option Addr} {n c : Nat} {xs : List α}, OwR E base W1 a n c xs → E ≠ RO → E ≠ RIS → OwR E base ((W1.setCells ob (k * 2) [.int .i64 ((k : Int) + 1), .slice a' ((s.lg k).length + 1) c']).setCells tb k [.slice xa ((nthR ts k).n + 1) xc]) a n c xs := fun ho h1 h2 => (ho.cellsTag tob h1 _ _).cellsTag tt h2 _ _
 have bothi : ∀ {a : Option Addr} {n c : Nat} {xs : List Int}, OwI .i64 RI base W1 a n c xs → OwI .i64 RI base ((W1.setCells ob (k * 2) [.int .i64 ((k : Int) + 1), .slice a' ((s.lg k).length + 1) c']).setCells tb k [.slice xa ((nthR ts k).n + 1) xc]) a n c xs := fun ho => (ho.cellsTag tob (by decide) _ _).cellsTag tt (by decide) _ _
 have hlt : ∀ j, j < 3 → ∀ g, (nthR ts j).a = some ⟨g, 0, none⟩ → g < W.heap.size := fun j hj g e2 => by
  have h9 := h.tms j hj
  rw [e2] at h9
  exact h9.tag.lt
 have hltk : ∀ g, ka = some ⟨g, 0, none⟩ → g < W.heap.size := fun g e2 => by
  have h9 := h.key_
  rw [e2] at h9
  exact h9.tag.lt
 refine ⟨(hb.cellsTag tob (by decide) _ _).cellsTag tt (by decide) _ _, o2.cellsTag tt (by decide) _ _, fun j hj => ?_, ?_, fun j hj => ?_, both (tg h.hed (by decide)) (by decide) (by decide), bothi (tgi h.key_ (fun g e2 => h.fark k hk g e2)), fun i j hi hj hij g h1 => ?_, fun i hi g h1 => ?_⟩
 ·rw [nthR_set (by omega)]
  by_cases e2 : j = k
  ·subst e2
   rw [if_pos rfl]
   refine ⟨rfl, ?_, ?_⟩
   ·show (s.lg j).length + 1 = (updN s.lg j _ j).length
    rw [updN_same, List.length_append]; rfl
   ·show OwR RE base _ a' _ c' (updN s.lg j _ j)
    rw [updN_same]
    exact both (tg hlog (by decide)) (by decide) (by decide)
  ·rw [if_neg e2]
   refine ⟨(h.ids j hj).1, ?_, ?_⟩
   ·show (nthR os j).n = (updN s.lg k _ j).length
    rw [updN_ne _ _ e2]; exact (h.ids j hj).2.1
   ·show OwR RE base _ _ _ _ (updN s.lg k _ j)
    rw [updN_ne _ _ e2]
    exact both (tg (h.ids j hj).2.2 (by decide)) (by decide) (by decide)
 ·have := t3
  rw [sz_ts, Nat.mul_one] at this
  exact this
 ·rw [nthR_set (by omega)]
  by_cases e2 : j = k
  ·subst e2
   rw [if_pos rfl]
   show OwI .i64 RI base _ xa _ xc (updN s.tm j _ j)
   rw [updN_same]
   exact bothi hown
  ·rw [if_neg e2]
   show OwI .i64 RI base _ _ _ _ (updN s.tm k _ j)
   rw [updN_ne _ _ e2]
   exact bothi (tgi (h.tms j hj) (fun g e3 => h.far k j hk hj (fun e4 => e2 e4.symm) g e3))
 ·rw [nthR_set (by omega)] at h1 ⊢
  by_cases ei : i = k
  ·rw [if_pos ei] at h1
   rw [if_neg (by omega)]
   rcases hnew g h1 with h2 | h2
   ·exact h.far k j hk hj (by omega) g h2
   ·exact fun e2 => by have := hlt j hj g e2; omega
  ·rw [if_neg ei] at h1
   by_cases ej : j = k
   ·rw [if_pos ej]
    intro e2
    rcases hnew g e2 with h2 | h2
    ·exact h.far i k hi hk ei g h1 h2
    ·have := hlt i hi g h1; omega
   ·rw [if_neg ej]; exact h.far i j hi hj hij g h1
 ·rw [nthR_set (by omega)] at h1
  by_cases ei : i = k
  ·rw [if_pos ei] at h1
   rcases hnew g h1 with h2 | h2
   ·exact h.fark k hk g h2
   ·exact fun e2 => by have := hltk g e2; omega
  ·rw [if_neg ei] at h1; exact h.fark i hi g h1
open Go.RowKit Go.ChangeShapes Go.WideShapes Go.Deep
theorem cells_addr {W : World} {base : Nat} {a : Addr} {n : Nat} {cs : List Value} (h : W.cells? base a n = some cs) (h0 : 0 < n) : ∃ b off, a = ⟨b, off, none⟩ := by
 obtain ⟨_, hl, hat⟩ := World.cells?_some h
 have h1 := hat 0 h0
 rw [List.getElem?_eq_getElem (by omega)] at h1
 have hs := World.cell?_spot h1
 obtain ⟨b, off, s⟩ := a
 simp [Addr.add] at hs
 subst hs
 exact ⟨b, off, rfl⟩
theorem add_none (b off i : Nat) : (⟨b, off, none⟩ : Addr).add i = ⟨b, off + i, none⟩ := by unfold Addr.add; split <;> simp_all
theorem cells_at {W : World} {base : Nat} {b off k n : Nat} {cs : List Value} (h : W.cells? base ((⟨b, off, none⟩ : Addr).add k) n = some cs) : ∀ i, i < n → W.cell? ⟨b, off + k + i, none⟩ = cs[i]? := by
 obtain ⟨_, hl, hat⟩ := World.cells?_some h
 intro i hi
 have h2 := hat i hi
 rwa [add_none, add_none] at h2
instance : Inhabited En := ⟨Cel.dflt⟩
section
variable {H : Type} {enc : TypeId × Value → H} {W : World} {spare : Nat → Bool} {held : Bool}
end
open Go.RowKit Go.ChangeShapes Go.WideShapes Go.Deep
structure LgR where
 do_ : Int
 who : Int
 which : Int
 wait : Int
 left : Int
 right : Int
 doc : Int
def LgR.enc (x : LgR) : List Value := [.int .u8 x.do_, .int .u8 x.who, .int .u8 x.which, .int .u16 x.wait, .int .u16 x.left, .int .u16 x.right, .int .u32 x.doc]
structure LgR.Ok (x : LgR) : Prop where
 do_ : (Lit.int .u8 x.do_).wf = true
 who : (Lit.int .u8 x.who).wf = true
 which : (Lit.int .u8 x.which).wf = true
 wait : (Lit.int .u16 x.wait).wf = true
 left : (Lit.int .u16 x.left).wf = true
 right : (Lit.int .u16 x.right).wf = true
 doc : (Lit.int .u32 x.doc).wf = true
instance : Cel LgR where
 dflt := ⟨0, 0, 0, 0, 0, 0, 0⟩
 sz := 7
 enc := LgR.enc
 ok := LgR.Ok
 len := fun _ => rfl
 pos := by decide
 one := by intro x v hv; simp [LgR.enc] at hv; rcases hv with rfl | rfl | rfl | rfl | rfl | rfl | rfl <;> rfl
theorem sz_lg : Cel.sz LgR = 7 := rfl
theorem cells_lg {W : World} {b o : Nat} {x : LgR} (h : W.rangeAt b o (Cel.enc x)) : W.cell? ⟨b, o, none⟩ = some (.int .u8 x.do_) ∧ W.cell? ⟨b, o + 1, none⟩ = some (.int .u8 x.who) ∧ W.cell? ⟨b, o + 2, none⟩ = some (.int .u8 x.which) ∧ W.cell? ⟨b, o + 3, none⟩ = some (.int .u16 x.wait) ∧ W.cell? ⟨b, o + 4, none⟩ = some (.int .u16 x.left) ∧ W.cell? ⟨b, o + 5, none⟩ = some (.int .u16 x.right) ∧ W.cell? ⟨b, o + 6, none⟩ = some (.int .u32 x.doc) :=
 ⟨by simpa using h 0 _ rfl, h 1 _ rfl, h 2 _ rfl, h 3 _ rfl, h 4 _ rfl, h 5 _ rfl, h 6 _ rfl⟩
def kindsLg : List Kd := [.int .u8, .int .u8, .int .u8, .int .u16, .int .u16, .int .u16, .int .u32]
theorem leaves_Lg {cs : List Value} (h : Leaves kindsLg cs) : ∃ x : LgR, Cel.ok x ∧ cs = Cel.enc x := by
 obtain ⟨x0, _, rfl, w0, h0⟩ := Leaves.int h
 obtain ⟨x1, _, rfl, w1, h1⟩ := Leaves.int h0
 obtain ⟨x2, _, rfl, w2, h2⟩ := Leaves.int h1
 obtain ⟨x3, _, rfl, w3, h3⟩ := Leaves.int h2
 obtain ⟨x4, _, rfl, w4, h4⟩ := Leaves.int h3
 obtain ⟨x5, _, rfl, w5, h5⟩ := Leaves.int h4
 obtain ⟨x6, _, rfl, w6, h6⟩ := Leaves.int h5
 obtain rfl := Leaves.nil h6
 exact ⟨⟨x0, x1, x2, x3, x4, x5, x6⟩, ⟨w0, w1, w2, w3, w4, w5, w6⟩, rfl⟩
instance : Inhabited LgR := ⟨Cel.dflt⟩
section
variable {H : Type} {enc : TypeId × Value → H} {W : World} {spare : Nat → Bool} {held : Bool}
theorem open_Lg {fuel : Nat} {cs : List Value} {x : DataW H × List MemPlace} (h : DataW.trod enc Tryz.prog W 0 spare held fuel 63 cs = some x) (hw : ∀ n ∈ x.1.weights Tryz.prog 63, n ≤ reachBytes) :
  ∃ a n c xs, cs = [.slice a n c] ∧ Rw (α := LgR) W a n c xs := by
 rcases open_slice Tryz.underlying63 h with ⟨rfl, _⟩ | ⟨a, len, cap, m, f, D, Pl, rfl, _, hl, hm, hmm, rfl, hx⟩
 ·exact ⟨none, 0, 0, [], rfl, Rw.nil W⟩
 have hlm : len ≤ m := by rw [hmm]; split <;> omega
 have each : ∀ i, i < len → ∃ q : LgR, Cel.ok q ∧ ∃ b off, a = ⟨b, off, none⟩ ∧ W.rangeAt b (off + i * Cel.sz LgR) (Cel.enc q) := by
  intro i hi
  obtain ⟨cs', h1, h2⟩ := hx i (by omega)
  rw [show Program.cellsOf Tryz.prog 115 = 7 by kernel_rfl] at h1
  obtain ⟨cs0, g1, _⟩ := hx 0 (by omega)
  rw [Nat.zero_mul, show a.add 0 = a by simp [Addr.add], show Program.cellsOf Tryz.prog 115 = 7 by kernel_rfl] at g1
  obtain ⟨b, o, rfl⟩ := cells_addr g1 (by omega)
  have hat := cells_at h1
  obtain ⟨e1, _, e3⟩ := flat_trod 5 _ kindsLg _ _ _ (by kernel_rfl) h2
  obtain ⟨q, hq, rfl⟩ := leaves_Lg (Leaves.of e1 e3)
  refine ⟨q, hq, b, o, rfl, fun j v hv => ?_⟩
  have hlen : (Cel.enc q).length = 7 := Cel.len q
  have hj : j < 7 := by
   rcases Nat.lt_or_ge j 7 with h | h
   ·exact h
   ·rw [List.getElem?_eq_none (by omega)] at hv; cases hv
  rw [show Cel.sz LgR = 7 from rfl, hat j hj]
  exact hv
 obtain ⟨X, hX⟩ := choose_lt each
 have hwt : (((List.range len).map D).length + ((List.range (m - len)).map fun j => D (len + j)).length) * Program.bytesOf Tryz.prog 115 ≤ reachBytes := hw _ (by simp [DataW.weights, Tryz.underlying63])
 rw [show Program.bytesOf Tryz.prog 115 = 16 by kernel_rfl] at hwt
 simp only [List.length_map, List.length_range] at hwt
 refine ⟨some a, len, cap, (List.range len).map X, rfl, by simp, hl, hm, by unfold reachBytes at hwt; omega, fun i hi => ?_, fun y hy => ?_⟩
 ·obtain ⟨hq, b, off, rfl, hr⟩ := hX i hi
  refine ⟨b, off, rfl, ?_⟩
  rw [show nthR ((List.range len).map X) i = X i by simp [nthR, List.getD_eq_getElem?_getD, hi]]
  exact hr
 ·obtain ⟨i, hi, rfl⟩ := List.mem_map.1 hy
  exact (hX i (List.mem_range.1 hi)).1
theorem open_LgV {r : Reach} {b0 : Nat} {v : Value} {d : DataW H} {ps : List MemPlace} (hval : Value.okWide Tryz.prog W r b0 63 v) (hd : DataW.Trod enc Tryz.prog W 0 spare held 63 v d ps) (hw : ∀ n ∈ d.weights Tryz.prog 63, n ≤ reachBytes) :
  ∃ a n c, ∃ xs : List LgR, v = .slice a n c ∧ Rw (α := LgR) W a n c xs := by
 obtain ⟨a, n, c, rfl⟩ := okWide_slice Tryz.underlying63 hval
 obtain ⟨fuel, hf⟩ := hd
 obtain ⟨a', n', c', xs, hc, hr⟩ := open_Lg hf hw
 simp [Value.cells] at hc
 obtain ⟨rfl, rfl, rfl⟩ := hc
 exact ⟨_, _, _, xs, rfl, hr⟩
end
open Go.RowKit Go.Sort Go.Shelf Go.Maps
theorem el_is : ElS Tryz.prog 65 RIS (.slice none 0 0) 1 24 := ⟨by kernel_rfl, by kernel_rfl, rfl, by decide⟩
theorem el_of : ElS Tryz.prog 50 RO (.agg #[.int .i64 0, .slice none 0 0]) 2 32 := ⟨by kernel_rfl, by kernel_rfl, rfl, by decide⟩
def osI (k : Nat) : List OfR := (List.range k).map fun (j : Nat) => ⟨(j : Int) + 1, none, 0, 0⟩
theorem osI_succ (k : Nat) : osI (k + 1) = osI k ++ [⟨(k : Int) + 1, none, 0, 0⟩] := by simp [osI, List.range_succ]
theorem own_cases {α : Type} [Cel α] {T : TypeId} {base : Nat} {W W' : World} {a : Option Addr} {n c : Nat} {xs : List α} (ho : OwR T base W a n c xs) (hG : W.grownBy W' (Value.slice a n c).ownBlock) : W.grownBy W' none ∨ ∃ q, W.grownBy W' (some q) ∧ Tag W q T := by
 rcases ho.headAt with ⟨e, _⟩ | ⟨q, e, _⟩
 ·subst e; exact .inl hG
 ·subst e; exact .inr ⟨q, hG, ho.tag⟩
theorem Bk.growOwn {T T' : TypeId} {W W' : World} {b : Nat} {C : Array Value} (h : Bk W b T' C) (hc : W.grownBy W' none ∨ ∃ q, W.grownBy W' (some q) ∧ Tag W q T) (hne : T' ≠ T) : Bk W' b T' C := by
 rcases hc with hg | ⟨q, hg, ht⟩
 ·exact (hg.block b h.lt (fun e2 => by cases e2)).trans h
 ·exact h.growTag hg ht hne
theorem OwR.growOwn {α : Type} [Cel α] {T E : TypeId} {base : Nat} {W W' : World} {a : Option Addr} {n c : Nat} {xs : List α} (h : OwR E base W a n c xs) (hc : W.grownBy W' none ∨ ∃ q, W.grownBy W' (some q) ∧ Tag W q T) (hne : E ≠ T) : OwR E base W' a n c xs := by
 rcases hc with hg | ⟨q, hg, ht⟩
 ·exact h.growNone hg
 ·exact h.growTag hg ht hne
theorem OwI.growOwn {k : IntKind} {T E : TypeId} {base : Nat} {W W' : World} {a : Option Addr} {n c : Nat} {xs : List Int} (h : OwI k E base W a n c xs) (hc : W.grownBy W' none ∨ ∃ q, W.grownBy W' (some q) ∧ Tag W q T) (hne : E ≠ T) : OwI k E base W' a n c xs := by
 rcases hc with hg | ⟨q, hg, ht⟩
 ·exact h.growNone hg
 ·exact h.growTag hg ht hne
def ts0 : List TsR := [⟨none, 0, 0⟩, ⟨none, 0, 0⟩, ⟨none, 0, 0⟩]
theorem OwI.head0I {k : IntKind} {T : TypeId} {base : Nat} {W : World} {a : Option Addr} {n c : Nat} {xs : List Int} (ho : OwI k T base W a n c xs) : (a = none ∧ n = 0) ∨ ∃ q, a = some ⟨q, 0, none⟩ := by
 obtain ⟨_, h2⟩ := ho
 rcases h2 with ⟨e, h0⟩ | ⟨g', cap, cur, hv, _⟩
 ·simp only [Value.slice.injEq] at e
  exact .inl ⟨e.1, e.2.1⟩
 ·simp only [Value.slice.injEq] at hv
  exact .inr ⟨g', hv.1⟩
theorem own_casesI {k : IntKind} {T : TypeId} {base : Nat} {W W' : World} {a : Option Addr} {n c : Nat} {xs : List Int} (ho : OwI k T base W a n c xs) (hG : W.grownBy W' (Value.slice a n c).ownBlock) : W.grownBy W' none ∨ ∃ q, W.grownBy W' (some q) ∧ Tag W q T := by
 rcases ho.head0I with ⟨e, _⟩ | ⟨q, e⟩
 ·subst e; exact .inl hG
 ·subst e; exact .inr ⟨q, hG, ho.tag⟩
theorem psK_succ (key : Nat) {k : Nat} (hk : k < 3) : (psK key).take (k + 1) = (psK key).take k ++ [pubO (secK key k)] := by
 rcases k with _ | _ | _ | k
 ·rfl
 ·rfl
 ·rfl
 ·omega
theorem secK_run {key k : Nat} {V : Int} (hV : V = (((key + k) % 18446744073709551616 : Nat) : Int)) (w : World) : Calls Tryz.prog 10 #[.int .u64 V] w fun e w' => e = .returned (.int .i64 (secK key k : Nat)) ∧ w = w' := by
 refine (rsecret_any V (by omega) w).mono ?_
 rintro e w' ⟨rfl, rfl⟩
 exact ⟨by rw [hV]; unfold secK; simp, rfl⟩
theorem pubK_run (key k : Nat) (w : World) : Calls Tryz.prog 13 #[.int .i64 (secK key k : Nat)] w fun e w' => e = .returned (.int .i64 (pubO (secK key k))) ∧ w = w' := by
 refine (rpublic_any (secK key k) (by have := (secK_ok key k).lt; omega) w).mono ?_
 rintro e w' ⟨rfl, rfl⟩
 exact ⟨rfl, rfl⟩
def RKl (B : Nat) (v : Int) : RelL Ext := ⟨none, fun _ x W => ∃ p, x = .slice (some ⟨p, 0, none⟩) 1 1 ∧ B ≤ p ∧ Bk W p RI #[.int .i64 v], fun _ _ _ _ ⟨p, h1, h2, h3⟩ hE => ⟨p, h1, h2, h3.ext hE⟩⟩
def RKo (B n : Nat) (xs : List Int) : RelL Ext := ⟨none, fun _ x W => ∃ g c, x = .slice (some ⟨g, 0, none⟩) n c ∧ OwI .i64 RI B W (some ⟨g, 0, none⟩) n c xs, fun _ _ _ _ ⟨g, c, h1, h2⟩ hE => ⟨g, c, h1, h2.ext hE⟩⟩
structure K6 (V : World) (tb b6 k : Nat) (oa : Option Addr) (oc : Nat) (ka : Option Addr) (kc key : Nat) (listed : Nat → Bool) (W : World) : Prop where
 ex : Ext V W
 tv : V.heap.size = tb
 off : OwR RO tb W oa (k + 1) oc (osI (k + 1))
 tim : OwR RIS tb W (some ⟨tb, 0, none⟩) 3 3 ts0
 blk : listed 11 = false → Bk W b6 RPs #[.slice oa (k + 1) oc, .slice (some ⟨tb, 0, none⟩) 3 3, .slice none 0 0, .slice ka k kc]
 keys : listed 9 = false → OwI .i64 RI tb W ka k kc ((psK key).take k)
 fin : listed 11 = true → ∃ a c, Bk W b6 RPs #[.slice oa (k + 1) oc, .slice (some ⟨tb, 0, none⟩) 3 3, .slice none 0 0, .slice a (k + 1) c] ∧ OwI .i64 RI tb W a (k + 1) c ((psK key).take (k + 1))
section
variable {V : World} {tb b6 k : Nat} {oa : Option Addr} {oc : Nat} {ka : Option Addr} {kc key : Nat} {listed : Nat → Bool} {W W' : World}
theorem K6.tbs (h : K6 V tb b6 k oa oc ka kc key listed W) : tb ≤ W.heap.size := by have := h.ex.sz; have := h.tv; omega
theorem K6.other (h : K6 V tb b6 k oa oc ka kc key listed W) {j : Nat} (h9 : j ≠ 9) (h11 : j ≠ 11) (hx : Ext W W') : K6 V tb b6 k oa oc ka kc key (updE listed j) W' := by
 have e9 : updE listed j 9 = listed 9 := by simp [updE, h9.symm]
 have e11 : updE listed j 11 = listed 11 := by simp [updE, h11.symm]
 refine ⟨h.ex.trans hx, h.tv, h.off.ext hx, h.tim.ext hx, ?_, ?_, ?_⟩
 ·rw [e11]; exact fun e => (h.blk e).ext hx
 ·rw [e9]; exact fun e => (h.keys e).ext hx
 ·rw [e11]; exact fun e => let ⟨a, c, h1, h2⟩ := h.fin e; ⟨a, c, h1.ext hx, h2.ext hx⟩
theorem K6.app (h : K6 V tb b6 k oa oc ka kc key listed W) (n9 : listed 9 = false) (n11 : listed 11 = false) (hb : Below tb W W') (hg : W.grownBy W' (Value.slice ka k kc).ownBlock) : K6 V tb b6 k oa oc ka kc key (updE listed 9) W' := by
 have hc := own_casesI (h.keys n9) hg
 refine ⟨Below.trans h.ex (hb.mono (by rw [h.tv]; exact Nat.le_refl _)), h.tv, h.off.growOwn hc (by decide), h.tim.growOwn hc (by decide), fun _ => (h.blk n11).growOwn hc (by decide), fun e => by simp [updE] at e, fun e => by simp [updE, n11] at e⟩
theorem K6.store (h : K6 V tb b6 k oa oc ka kc key listed W) (n11 : listed 11 = false) (i9 : listed 9 = true) (hb : tb ≤ b6) {a : Option Addr} {c : Nat} (ho : OwI .i64 RI tb W a (k + 1) c ((psK key).take (k + 1))) : K6 V tb b6 k oa oc ka kc key (updE listed 11) (W.setCell ⟨b6, 3, none⟩ (.slice a (k + 1) c)) := by
 have hB := h.blk n11
 exact ⟨h.ex.setCell (p := ⟨b6, 3, none⟩) (by rw [h.tv]; exact hb) _, h.tv, h.off.setTag hB.tag (by decide) 3 _, h.tim.setTag hB.tag (by decide) 3 _, fun e => by simp [updE] at e, fun e => by simp [updE, i9] at e, fun _ => ⟨a, c, hB.set 3 _, ho.setTag hB.tag (by decide) 3 _⟩⟩
end
open Go.RowKit Go.Sort Go.Shelf Go.Maps
def lgN (x : LgR) : Lg := ⟨x.do_.toNat, x.who.toNat, x.which.toNat, x.wait.toNat, x.left.toNat, x.right.toNat, x.doc.toNat⟩
theorem wf_nat {k : IntKind} {x : Int} (h : (Lit.int k x).wf = true) (hs : k.min = 0) : ((x.toNat : Nat) : Int) = x ∧ x ≤ k.max := by
 simp [Lit.wf] at h
 rw [hs] at h
 omega
theorem lgN_ok {x : LgR} (h : x.Ok) : (lgN x).Ok := by
 obtain ⟨h1, h2, h3, h4, h5, h6, h7⟩ := h
 have a1 := (wf_nat h1 rfl).2
 have a2 := (wf_nat h2 rfl).2
 have a3 := (wf_nat h3 rfl).2
 have a4 := (wf_nat h4 rfl).2
 have a5 := (wf_nat h5 rfl).2
 have a6 := (wf_nat h6 rfl).2
 have a7 := (wf_nat h7 rfl).2
 simp [IntKind.max, IntKind.bits, IntKind.signed] at a1 a2 a3 a4 a5 a6 a7
 exact ⟨by show x.do_.toNat ≤ _; omega, by show x.who.toNat ≤ _; omega, by show x.which.toNat ≤ _; omega, by show x.wait.toNat ≤ _; omega, by show x.left.toNat ≤ _; omega, by show x.right.toNat ≤ _; omega, by show x.doc.toNat ≤ _; omega⟩
theorem cells_lgN {W : World} {b o : Nat} {x : LgR} (h : W.rangeAt b o (Cel.enc x)) (hk : x.Ok) : W.cell? ⟨b, o, none⟩ = some (.int .u8 ((lgN x).do_ : Nat)) ∧ W.cell? ⟨b, o + 1, none⟩ = some (.int .u8 ((lgN x).who : Nat)) ∧ W.cell? ⟨b, o + 2, none⟩ = some (.int .u8 ((lgN x).which : Nat)) ∧ W.cell? ⟨b, o + 3, none⟩ = some (.int .u16 ((lgN x).wait : Nat)) ∧ W.cell? ⟨b, o + 4, none⟩ = some (.int .u16 ((lgN x).left : Nat)) ∧ W.cell? ⟨b, o + 5, none⟩ = some (.int .u16 ((lgN x).right : Nat)) ∧ W.cell? ⟨b, o + 6, none⟩ = some (.int .u32 ((lgN x).doc : Nat)) := by
 obtain ⟨h1, h2, h3, h4, h5, h6, h7⟩ := hk
 obtain ⟨c1, c2, c3, c4, c5, c6, c7⟩ := cells_lg h
 unfold lgN
 simp only
 rw [(wf_nat h1 rfl).1, (wf_nat h2 rfl).1, (wf_nat h3 rfl).1, (wf_nat h4 rfl).1, (wf_nat h5 rfl).1, (wf_nat h6 rfl).1, (wf_nat h7 rfl).1]
 exact ⟨c1, c2, c3, c4, c5, c6, c7⟩
def lgL (l : List LgR) (i : Nat) : Lg := lgN (nthR l i)
theorem lgN_dflt : (lgN (Cel.dflt : LgR)).Ok := ⟨by decide, by decide, by decide, by decide, by decide, by decide, by decide⟩
theorem lgL_ok {w : World} {a : Option Addr} {n c : Nat} {l : List LgR} (H : Rw w a n c l) (i : Nat) : (lgL l i).Ok := by
 rcases Nat.lt_or_ge i n with h | h
 ·exact lgN_ok (H.wfAt h)
 ·unfold lgL
  have hl := H.hlen
  rw [show nthR l i = Cel.dflt by simp [nthR, List.getD_eq_getElem?_getD, List.getElem?_eq_none (show l.length ≤ i by omega)]]
  exact lgN_dflt
theorem PRep.start {base : Nat} {W : World} {b6 key : Nat} {oa : Option Addr} {oc : Nat} {tb tc : Nat} {ka : Option Addr} {kc : Nat}
  (hb : Bk W b6 RPs #[.slice oa 3 oc, .slice (some ⟨tb, 0, none⟩) 3 tc, .slice none 0 0, .slice ka 3 kc]) (ho : OwR RO base W oa 3 oc (osI 3)) (hk : OwI .i64 RI base W ka 3 kc (psK key)) (ht : OwR RIS base W (some ⟨tb, 0, none⟩) 3 tc ts0) :
  PRep base W b6 key ps0 oa oc (some ⟨tb, 0, none⟩) tc none 0 0 ka kc (osI 3) ts0 := by
 refine ⟨hb, ho, fun j hj => ?_, ht, fun j hj => ?_, OwR.nil _ _ _, hk, fun i j hi hj _ g e => ?_, fun i hi g e => ?_⟩
 ·rcases j with _ | _ | _ | j
  ·exact ⟨rfl, rfl, OwR.nil _ _ _⟩
  ·exact ⟨rfl, rfl, OwR.nil _ _ _⟩
  ·exact ⟨rfl, rfl, OwR.nil _ _ _⟩
  ·omega
 ·rcases j with _ | _ | _ | j
  ·exact OwI.nil _ _ _ _
  ·exact OwI.nil _ _ _ _
  ·exact OwI.nil _ _ _ _
  ·omega
 ·rcases i with _ | _ | _ | i
  ·cases e
  ·cases e
  ·cases e
  ·omega
 ·rcases i with _ | _ | _ | i
  ·cases e
  ·cases e
  ·cases e
  ·omega
theorem OwR.cellsAt {α : Type} [Cel α] {E : TypeId} {base : Nat} {W : World} {g n c : Nat} {xs : List α} (h : OwR E base W (some ⟨g, 0, none⟩) n c xs) {i : Nat} (hi : i < n) : W.rangeAt g (i * Cel.sz α) (Cel.enc (nthR xs i)) := by
 have hl := h.1
 obtain ⟨g', cur, e, hg, hb, hle, hm, hs, ht⟩ := h.row (by omega)
 cases e
 have hil : i < xs.length := by omega
 intro j v hv
 have hj : j < Cel.sz α := by
  rw [← Cel.len (nthR xs i)]
  exact (List.getElem?_eq_some_iff.1 hv).1
 have h2 : (xs.flatMap Cel.enc)[i * Cel.sz α + j]? = some v := by
  have h1 : xs = xs.take i ++ (xs[i] :: xs.drop (i + 1)) := by rw [← List.drop_eq_getElem_cons hil, List.take_append_drop]
  rw [nthR_get hil] at hv
  conv => lhs; rw [h1]
  rw [List.flatMap_append, List.flatMap_cons]
  have hpl : ((xs.take i).flatMap Cel.enc).length = i * Cel.sz α := by rw [flat_len, List.length_take, Nat.min_eq_left (by omega)]
  rw [List.getElem?_append_right (by omega), hpl, Nat.add_sub_cancel_left, List.getElem?_append_left (by rw [Cel.len]; exact hj)]
  exact hv
 have h3 : cur[i * Cel.sz α + j]? = some v := by
  rw [← ht] at h2
  have h4 : i * Cel.sz α + j < n * Cel.sz α := by
   have : (i + 1) * Cel.sz α ≤ n * Cel.sz α := Nat.mul_le_mul_right _ (by omega)
   rw [Nat.add_mul, Nat.one_mul] at this
   omega
  rw [List.getElem?_take_of_lt h4] at h2
  exact h2
 exact cell_of_block hg _ _ (by simpa using h3)
section
variable {base : Nat} {W W' : World} {b6 key : Nat} {s : Ps} {ob oc : Nat} {ta : Option Addr} {tc : Nat} {ha : Option Addr} {hn hc : Nat} {ka : Option Addr} {kc : Nat} {os : List OfR} {ts : List TsR}
theorem PRep.offAt (P : PRep base W b6 key s (some ⟨ob, 0, none⟩) oc ta tc ha hn hc ka kc os ts) {k : Nat} (hk : k < 3) : W.cell? ⟨ob, k * 2, none⟩ = some (.int .i64 ((k : Int) + 1)) ∧ W.cell? ⟨ob, k * 2 + 1, none⟩ = some (.slice (nthR os k).a (s.lg k).length (nthR os k).c) := by
 have h1 := P.off.cellsAt hk
 obtain ⟨d0, d1⟩ := cells_of h1
 obtain ⟨i1, i2, i3⟩ := P.ids k hk
 rw [i1] at d0
 rw [i2] at d1
 exact ⟨d0, d1⟩
theorem PRep.logAt (P : PRep base W b6 key s (some ⟨ob, 0, none⟩) oc ta tc ha hn hc ka kc os ts) {k : Nat} (hk : k < 3) {i : Nat} (H : PsOk key s i) (hi : i ≤ 24) : Rw W (nthR os k).a (s.lg k).length (nthR os k).c (s.lg k) := by
 obtain ⟨i1, i2, i3⟩ := P.ids k hk
 rw [i2] at i3
 exact log_rw i3 (by have := (H.len k).2; omega) (fun x hx => H.eok hi k x hx)
theorem PRep.hlen (P : PRep base W b6 key s (some ⟨ob, 0, none⟩) oc ta tc ha hn hc ka kc os ts) : s.hs.length = hn := P.hed.1
theorem PRep.hRw (P : PRep base W b6 key s (some ⟨ob, 0, none⟩) oc ta tc ha hn hc ka kc os ts) {i : Nat} (H : PsOk key s i) (hi : i ≤ 24) : Rw W ha hn hc s.hs := by
 have := H.hlen
 have := P.hlen
 exact P.hed.rw (by omega) (fun h hh => (H.logOk hi hh).sg.ok)
theorem PRep.above (P : PRep base W b6 key s (some ⟨ob, 0, none⟩) oc ta tc ha hn hc ka kc os ts) (hb : base ≤ b6) (hk : ∀ g, base ≤ g → W'.heap[g]? = W.heap[g]?) : PRep base W' b6 key s (some ⟨ob, 0, none⟩) oc ta tc ha hn hc ka kc os ts := by
 have ow : ∀ {α : Type} [Cel α] {E : TypeId} {a : Option Addr} {n c : Nat} {xs : List α}, OwR E base W a n c xs → OwR E base W' a n c xs := by
  intro α _ E a n c xs h
  refine h.blocks fun g e => hk g ?_
  rcases h.headAt with ⟨e2, _⟩ | ⟨q, e2, hq, _⟩
  ·rw [e2] at e; cases e
  ·rw [e2] at e; simp only [Option.some.injEq, Addr.mk.injEq, and_true] at e; omega
 have owi : ∀ {a : Option Addr} {n c : Nat} {xs : List Int}, OwI .i64 RI base W a n c xs → OwI .i64 RI base W' a n c xs := by
  intro a n c xs h
  refine h.blocks fun g e => hk g ?_
  subst e
  exact h.ge.1
 exact ⟨(hk b6 hb).trans P.blk, ow P.off, fun j hj => ⟨(P.ids j hj).1, (P.ids j hj).2.1, ow (P.ids j hj).2.2⟩, ow P.tim, fun j hj => owi (P.tms j hj), ow P.hed, owi P.key_, P.far, P.fark⟩
end
open Go.RowKit Go.Sort Go.Shelf Go.Maps
theorem step_still {key i : Nat} {s : Ps} {x : Lg} (h1 : x.do_ % 4 = 1) (h2 : (s.lg (x.who % 3)).length = 0 ∨ s.hs.length = 12) : stepP key i s x = ⟨s.now + 1 + x.wait, s.lg, s.tm, s.hs, s.st⟩ := by
 unfold stepP
 simp only
 rw [if_pos h1, if_pos h2]
theorem step_sign {key i : Nat} {s : Ps} {x : Lg} (h1 : x.do_ % 4 = 1) (h2 : (s.lg (x.who % 3)).length ≠ 0) (h3 : s.hs.length ≠ 12) :
  stepP key i s x = ⟨s.now + 1 + x.wait, s.lg, s.tm, s.hs ++ [sgHd (((x.who % 3 : Nat) : Int) + 1) (s.lg (x.who % 3)) (s.lg (x.who % 3)).length (secK key (x.who % 3)) (secK key (50 + i))], s.st ++ [s.now + 1 + x.wait]⟩ := by
 unfold stepP
 simp only
 rw [if_pos h1, if_neg (by omega)]
theorem step_none {key i : Nat} {s : Ps} {x : Lg} (h1 : x.do_ % 4 = 2) (h2 : s.hs.length = 0) : stepP key i s x = ⟨s.now + 1 + x.wait, s.lg, s.tm, s.hs, s.st⟩ := by
 unfold stepP
 simp only
 rw [if_neg (by omega), if_pos ⟨h1, h2⟩]
theorem step_log {key i : Nat} {s : Ps} {x : Lg} (h1 : x.do_ % 4 ≠ 1) (h2 : x.do_ % 4 = 2 → s.hs.length ≠ 0) :
  stepP key i s x = ⟨s.now + 1 + x.wait, updN s.lg (x.who % 3) (s.lg (x.who % 3) ++ [newE s x]), updN s.tm (x.who % 3) (s.tm (x.who % 3) ++ [s.now + 1 + x.wait]), s.hs, s.st⟩ := by
 unfold stepP
 simp only
 rw [if_neg h1, if_neg (fun h => h2 h.1 h.2)]
theorem newE_ok {key n : Nat} {s : Ps} {x : Lg} (H : PsOk key s n) (hn : n < 24) (hx : x.Ok) (h1 : x.do_ % 4 ≠ 1) (h2 : x.do_ % 4 = 2 → s.hs.length ≠ 0) :
  (newE s x).Ok ∧ ivOk (newE s x).lo (newE s x).hi = true ∧ (0 < (s.lg (x.who % 3)).length → (nthR (s.lg (x.who % 3)) ((s.lg (x.who % 3)).length - 1)).lo ≤ (newE s x).lo) := by
 have H2 := step_ok (i := 0) H hx
 rw [step_log h1 h2] at H2
 have hE : nthR (updN s.lg (x.who % 3) (s.lg (x.who % 3) ++ [newE s x]) (x.who % 3)) (s.lg (x.who % 3)).length = newE s x := by rw [updN_same, nthR_e rfl]
 have hL : (updN s.lg (x.who % 3) (s.lg (x.who % 3) ++ [newE s x]) (x.who % 3)).length = (s.lg (x.who % 3)).length + 1 := by rw [updN_same, List.length_append]; rfl
 have a1 := H2.eok (by omega) (x.who % 3) (s.lg (x.who % 3)).length (by show _ < (updN s.lg (x.who % 3) (s.lg (x.who % 3) ++ [newE s x]) (x.who % 3)).length; omega)
 have a2 := H2.iv (by omega) (x.who % 3) (s.lg (x.who % 3)).length (by show _ < (updN s.lg (x.who % 3) (s.lg (x.who % 3) ++ [newE s x]) (x.who % 3)).length; omega)
 simp only [hE] at a1 a2
 refine ⟨a1, a2, fun h0 => ?_⟩
 have a3 := H2.lo (x.who % 3) ((s.lg (x.who % 3)).length - 1) (by show _ < (updN s.lg (x.who % 3) (s.lg (x.who % 3) ++ [newE s x]) (x.who % 3)).length; omega)
 rw [show (s.lg (x.who % 3)).length - 1 + 1 = (s.lg (x.who % 3)).length by omega] at a3
 simp only [hE] at a3
 have e1 : nthR (updN s.lg (x.who % 3) (s.lg (x.who % 3) ++ [newE s x]) (x.who % 3)) ((s.lg (x.who % 3)).length - 1) = nthR (s.lg (x.who % 3)) ((s.lg (x.who % 3)).length - 1) := by rw [updN_same, nthR_app_left (by omega)]
 rw [e1] at a3
 exact a3
theorem runP_congr {key : Nat} {l l' : Nat → Lg} : ∀ n, (∀ i, i < n → l i = l' i) → runP key l n = runP key l' n
 | 0, _ => rfl
 | n + 1, h => by
  show stepP key n (runP key l n) (l n) = stepP key n (runP key l' n) (l' n)
  rw [runP_congr n (fun i hi => h i (by omega)), h n (Nat.lt_succ_self n)]
theorem run_take (key : Nat) (l : List LgR) {m : Nat} : runP key (lgL (l.take m)) m = runP key (lgL l) m :=
 runP_congr m (fun i hi => by unfold lgL; rw [nthR_take hi])
def LgsP (w : World) (key : Nat) (l : Nat → Lg) (n : Nat) : Ending → World → Prop := fun e w' => ∃ base b6 ob oc tb ha hn hc ka kc os ts,
 e = .returned (.tuple #[.agg #[.slice (some ⟨ob, 0, none⟩) 3 oc, .slice (some ⟨tb, 0, none⟩) 3 3, .slice ha hn hc, .slice ka 3 kc], .bool true]) ∧
  PRep base w' b6 key (runP key l n) (some ⟨ob, 0, none⟩) oc (some ⟨tb, 0, none⟩) 3 ha hn hc ka kc os ts ∧ Ext w w'
open Go.RowKit Go.Sort Go.Shelf Go.Maps
def HMon (s : Ps) : Prop := ∀ m m', m < m' → m' < s.hs.length → (nthR s.hs m).o = (nthR s.hs m').o → (nthR s.hs m).s ≤ (nthR s.hs m').s
theorem step_mon {key i n : Nat} {s : Ps} {x : Lg} (H : PsOk key s n) (M : HMon s) : HMon (stepP key i s x) := by
 by_cases h1 : x.do_ % 4 = 1
 ·by_cases h2 : (s.lg (x.who % 3)).length = 0 ∨ s.hs.length = 12
  ·rw [step_still h1 h2]; exact M
  ·rw [step_sign h1 (by omega) (by omega)]
   intro m m' hm hm' ho
   simp only at hm' ho ⊢
   rw [List.length_append, List.length_singleton] at hm'
   rw [nthR_app_left (show m < s.hs.length by omega)] at ho ⊢
   rcases Nat.lt_or_ge m' s.hs.length with h | h
   ·rw [nthR_app_left h] at ho ⊢
    exact M m m' hm h ho
   ·rw [nthR_e (show m' = s.hs.length by omega)] at ho ⊢
    obtain ⟨k, q, once, b0, b1, b2, b3, b4, b5, b6⟩ := H.head m (by omega)
    rw [b1] at ho ⊢
    have e : (k : Int) + 1 = ((x.who % 3 : Nat) : Int) + 1 := ho
    have ek : k = x.who % 3 := by omega
    subst ek
    show (q : Int) ≤ ((s.lg (x.who % 3)).length : Int)
    omega
 ·by_cases h2 : x.do_ % 4 = 2 ∧ s.hs.length = 0
  ·rw [step_none h2.1 h2.2]; exact M
  ·rw [step_log h1 (fun h3 h4 => h2 ⟨h3, h4⟩)]; exact M
theorem run_mon (key : Nat) (l : Nat → Lg) (hl : ∀ i, (l i).Ok) : ∀ n, HMon (runP key l n)
 | 0 => fun m m' h h' => absurd h' (Nat.not_lt_zero _)
 | n + 1 => step_mon (run_ok key l hl n) (run_mon key l hl n)
section
variable {base : Nat} {W : World} {b6 key : Nat} {s : Ps} {ob oc : Nat} {ta : Option Addr} {tc : Nat} {ha : Option Addr} {hn hc : Nat} {ka : Option Addr} {kc : Nat} {os : List OfR} {ts : List TsR}
theorem PRep.offRw (P : PRep base W b6 key s (some ⟨ob, 0, none⟩) oc ta tc ha hn hc ka kc os ts) : Rw W (some ⟨ob, 0, none⟩) 3 oc os := by
 refine P.off.rw (by omega) (fun x hx => ?_)
 obtain ⟨j, hj, rfl⟩ := List.mem_iff_getElem.1 hx
 have hl := P.off.1
 have h1 := (P.ids j (by omega)).1
 rw [nthR_get hj] at h1
 show (Lit.int .i64 _).wf = true
 rw [h1]
 simp [Lit.wf, IntKind.min, IntKind.max, IntKind.bits, IntKind.signed]
 omega
theorem PRep.arc (P : PRep base W b6 key s (some ⟨ob, 0, none⟩) oc ta tc ha hn hc ka kc os ts) {i : Nat} (H : PsOk key s i) (hi : i ≤ 24) {xa : Option Addr} {xn xc : Nat} {cs : List Hd} (hx : Rw W xa xn xc cs) (hn : xn ≤ 12) : ArcIn W (some ⟨ob, 0, none⟩) 3 oc os s.lg xa xn xc cs := by
 refine ⟨P.offRw, by omega, fun j hj => ⟨?_, ?_⟩, fun j hj i hij => ?_, hx, hn⟩
 ·have h1 := P.logAt hj H hi
  rw [(P.ids j hj).2.1]
  exact h1
 ·rw [(P.ids j hj).1]
  exact H.off hi hj
 ·rw [(P.ids i (by omega)).1, (P.ids j hj).1]; omega
theorem PRep.lgO (P : PRep base W b6 key s (some ⟨ob, 0, none⟩) oc ta tc ha hn hc ka kc os ts) : lgO os s.lg 3 = lgF s := lgO_F (fun j hj => (P.ids j hj).1)
theorem PRep.heldAll (P : PRep base W b6 key s (some ⟨ob, 0, none⟩) oc ta tc ha hn hc ka kc os ts) {i : Nat} (H : PsOk key s i) {xn : Nat} {cs : List Hd} (hl : cs.length = xn) (hs : ∀ h, h ∈ cs → h ∈ s.hs) : ∀ k, k < xn → Held os s.lg 3 (nthR cs k) := by
 intro k hk
 have h1 : nthR cs k ∈ s.hs := hs _ (by rw [nthR_get (by omega)]; exact List.getElem_mem _)
 obtain ⟨m, hm, e⟩ := List.mem_iff_getElem.1 h1
 rw [← e, ← nthR_get hm]
 exact H.held (fun j hj => (P.ids j hj).1) (fun j hj => (P.ids j hj).2.1) hm
theorem PRep.keys (P : PRep base W b6 key s (some ⟨ob, 0, none⟩) oc ta tc ha hn hc ka kc os ts) : Sl .i64 W ka 3 kc (psK key) := P.key_.sl (fun x hx => by
 obtain ⟨h1, h2⟩ := psK_keys key x hx
 simp only [psK, List.mem_cons, List.not_mem_nil, or_false] at hx
 have h3 : ∀ m, 0 ≤ pubO m ∧ pubO m < 2147483579 := fun m => by
  unfold pubO
  have := (show pw 2147483579 4 m < 2147483579 by rw [pw_def]; exact Nat.mod_lt _ (by decide))
  omega
 rcases hx with rfl | rfl | rfl
 all_goals
  have h4 := h3 (secK key 0)
  have h5 := h3 (secK key 1)
  have h6 := h3 (secK key 2)
  simp [Lit.wf, IntKind.min, IntKind.max, IntKind.bits, IntKind.signed]
  omega)
theorem PRep.tsLen (P : PRep base W b6 key s (some ⟨ob, 0, none⟩) oc ta tc ha hn hc ka kc os ts) {i : Nat} (H : PsOk key s i) {k : Nat} (hk : k < 3) : (nthR ts k).n = (s.lg k).length := by
 have h1 : (s.tm k).length = (nthR ts k).n := (P.tms k hk).hlen
 rw [← h1]; exact (H.len k).1
end
open Go.RowKit Go.Sort Go.Shelf Go.Maps
set_option maxHeartbeats 8000000 in
theorem find_no {a : Option Addr} {n c : Nat} {os : List OfR} {es : Nat → List En} {ha : Option Addr} {hn hc : Nat} {hs : List Hd} {w : World} (H : ArcIn w a n c os es ha hn hc hs) (HH : ∀ k, k < hn → Held os es n (nthR hs k))
  (j1 i j2 k : Nat) (hj1 : j1 < n) (hi : i < (nthR os j1).n) (hj2 : j2 < n) (hk : k < (nthR os j2).n) (hS : srch (lgO os es n) hs (okc (nthR os j2).id k) 4 (levA hs (nthR os j1).id i) = none) (ht : TB w) :
  Calls Tryz.prog 12 #[.slice a n c, .slice ha hn hc, .int .i64 (nthR os j1).id, .int .i64 i, .int .i64 (nthR os j2).id, .int .i64 k] w fun e w' => e = .returned (.tuple #[.agg #[.int .i64 0, .int .i64 0, .int .u64 0, .int .i64 0, .int .i64 0, .int .i64 0, .int .u64 0, .int .i64 0, .int .i64 0, .slice none 0 0, .slice none 0 0, .slice none 0 0, .int .i64 0, .int .i64 0, .int .u64 0, .int .i64 0, .int .i64 0, .int .i64 0, .int .u64 0, .int .i64 0, .int .i64 0, .slice none 0 0], .bool false, .int .i64 0]) ∧ Ext w w' := by
 have h4096 : ∀ j, j < n → (nthR os j).n ≤ 4096 := fun j hj => by
  have e1 := (H.off j hj).1.hlen
  rw [← e1]
  exact (offB_iff.1 (H.off j hj).2).2.1
 have HNA := Lib.hid (fun (W : World) (hx : Ext w W) => newArchive_yes (H.ext hx) (ht.ext hx))
 have HIN := Lib.hid H
 have HHE := Lib.hid HH
 have HTB := Lib.hid ht
 have HHS := Lib.hid (fun (b mb : Nat) (W : World) (hA : Arc W b mb a n c os es ha hn hc hs) => has_yes hA j1 i hj1 hi)
 have HHT := Lib.hid (fun (b mb : Nat) (W : World) (hA : Arc W b mb a n c os es ha hn hc hs) => has_yes hA j2 k hj2 hk)
 have HSE : Hid (∀ (b mb : Nat) (W : World) (hx : Ext w W) (hA : Arc W b mb a n c os es ha hn hc hs), Calls Tryz.prog 34 #[.pointer (some ⟨b, 0, none⟩), .int .i64 (nthR os j1).id, .int .i64 i, .int .i64 (nthR os j2).id, .int .i64 k] W fun e w' => e = .returned (.tuple #[.agg #[.slice none 0 0, .int .i64 0], .bool false]) ∧ Ext W w') := Lib.hid (by
  intro b mb W hx hA
  have h := search_any hA HH (nthR os j1).id i (nthR os j2).id k (by have := h4096 j1 hj1; simp [Lit.wf, IntKind.min, IntKind.max, IntKind.bits, IntKind.signed]; omega) (ht.ext hx)
  rw [hS] at h
  exact h)
 clear H HH ht hS h4096 hi hk hj1 hj2
 have hZ := Bk.new w 47 #[.int .i64 0, .int .i64 0, .int .u64 0, .int .i64 0, .int .i64 0, .int .i64 0, .int .u64 0, .int .i64 0, .int .i64 0, .slice none 0 0, .slice none 0 0, .slice none 0 0, .int .i64 0, .int .i64 0, .int .u64 0, .int .i64 0, .int .i64 0, .int .i64 0, .int .u64 0, .int .i64 0, .int .i64 0, .slice none 0 0]
 have hx : Ext w (w.alloc (.cells #[.int .i64 0, .int .i64 0, .int .u64 0, .int .i64 0, .int .i64 0, .int .i64 0, .int .u64 0, .int .i64 0, .int .i64 0, .slice none 0 0, .slice none 0 0, .slice none 0 0, .int .i64 0, .int .i64 0, .int .u64 0, .int .i64 0, .int .i64 0, .int .i64 0, .int .u64 0, .int .i64 0, .int .i64 0, .slice none 0 0] 47)) := (Ext.refl w).alloc _
 go_enter Tryz.func12, Tryz.ntmps12
 go_upto_region 1 with fail
 generalize w.alloc (.cells #[.int .i64 0, .int .i64 0, .int .u64 0, .int .i64 0, .int .i64 0, .int .i64 0, .int .u64 0, .int .i64 0, .int .i64 0, .slice none 0 0, .slice none 0 0, .slice none 0 0, .int .i64 0, .int .i64 0, .int .u64 0, .int .i64 0, .int .i64 0, .int .i64 0, .int .u64 0, .int .i64 0, .int .i64 0, .slice none 0 0] 47) = V at *
 obtain ⟨b12, hb12⟩ : ∃ b, w.heap.size = b := ⟨_, rfl⟩
 have HB12 := Lib.hid hb12
 rw [hb12] at hZ ⊢
 clear hb12
 go_wp2_with (go_at_call 31; refine (HNA.out _ hx).mono ?_; rintro e9 w1 ⟨b, mb, rfl, hAB, hAM, hx1⟩; refine hold ?_)
 refine held ?_
 have hA : Arc w1 b mb a n c os es ha hn hc hs := ⟨HIN.out.ext (hx.trans hx1), hAB, hAM⟩
 clear hAB hAM
 replace hx := hx.trans hx1
 replace hZ := hZ.ext hx1
 clear hx1 HNA
 go_wp2_with (go_at_call 32; refine (HHS.out _ _ _ hA).mono ?_; rintro e9 w2 ⟨rfl, hx1⟩; refine hold ?_)
 refine held ?_
 replace hA := hA.ext hx1
 replace hx := hx.trans hx1
 replace hZ := hZ.ext hx1
 clear hx1 HHS
 go_wp2_with (go_at_call 32; refine (HHT.out _ _ _ hA).mono ?_; rintro e9 w3 ⟨rfl, hx1⟩; refine hold ?_)
 refine held ?_
 replace hA := hA.ext hx1
 replace hx := hx.trans hx1
 replace hZ := hZ.ext hx1
 clear hx1 HHT
 have HWH := Lib.hid (whole_yes hA HHE.out (HTB.out.ext hx))
 go_wp2_with (go_at_call 33; refine HWH.out.mono ?_; rintro e9 w4 ⟨rfl, hx1⟩; refine hold ?_)
 refine held ?_
 replace hA := hA.ext hx1
 replace hx := hx.trans hx1
 replace hZ := hZ.ext hx1
 clear hx1 HWH
 have HXY := Lib.hid hx
 go_wp2_with (go_at_call 34; refine (HSE.out _ _ _ hx hA).mono ?_; rintro e9 w5 ⟨rfl, hx1⟩; refine hold ?_)
 refine held ?_
 replace hx := hx.trans hx1
 replace hZ := hZ.ext hx1
 clear hx1 HSE hA
 have hx1 : Ext w5 (w5.alloc (.cells #[.slice none 0 0, .int .i64 0] 90)) := (Ext.refl w5).alloc _
 go_upto_region 10 with fail
 replace hx := hx.trans hx1
 replace hZ := hZ.ext hx1
 clear hx1
 generalize w5.alloc (.cells #[.slice none 0 0, .int .i64 0] 90) = V1 at *
 obtain ⟨CL, hCL⟩ : ∃ CL : List Value, CL = [.int .i64 0, .int .i64 0, .int .u64 0, .int .i64 0, .int .i64 0, .int .i64 0, .int .u64 0, .int .i64 0, .int .i64 0, .slice none 0 0, .slice none 0 0, .slice none 0 0, .int .i64 0, .int .i64 0, .int .u64 0, .int .i64 0, .int .i64 0, .int .i64 0, .int .u64 0, .int .i64 0, .int .i64 0, .slice none 0 0] := ⟨_, rfl⟩
 have hZX : Bk (V1.setCells b12 0 CL) b12 47 CL.toArray := hZ.allCells CL (by rw [hCL]; rfl)
 have hx9 := Ext.cells (b := b12) (by rw [HB12.out]; exact Nat.le_refl _) CL 0 hx
 go_wp2_with (refine storeBk rfl 47 _ _ rfl b12 [.int .i64 0, .int .i64 0, .int .u64 0, .int .i64 0, .int .i64 0, .int .i64 0, .int .u64 0, .int .i64 0, .int .i64 0, .slice none 0 0, .slice none 0 0, .slice none 0 0, .int .i64 0, .int .i64 0, .int .u64 0, .int .i64 0, .int .i64 0, .int .i64 0, .int .u64 0, .int .i64 0, .int .i64 0, .slice none 0 0] hZ rfl rfl rfl (by kernel_rfl) (by intro v hv; simp only [List.mem_cons, List.not_mem_nil, or_false] at hv; rcases hv with rfl | rfl | rfl | rfl | rfl | rfl | rfl | rfl | rfl | rfl | rfl | rfl | rfl | rfl | rfl | rfl | rfl | rfl | rfl | rfl | rfl | rfl <;> rfl) ?_; refine hold ?_)
 rw [← hCL]
 generalize V1.setCells b12 0 CL = W9 at *
 refine held ?_
 go_wp2_with fail
 try simp only [Exit.inBlock, Exit.then]
 refine bodyPost_ret (res_find _ b12 CL (.bool false) (.int .i64 0) _ (by rw [hCL]; rfl) (by rfl) (by rfl) (by rfl) hZX) rfl ⟨by rw [hCL], hx9⟩
open Go.RowKit Go.Sort Go.Shelf Go.Maps
structure FdR (lg : Int → List En) (hs : List Hd) (f i t k : Nat) (CL : List Value) (r : Bool) (W : World) : Prop where
 len : CL.length = 22
 one : ∀ v ∈ CL, v.oneCell' = true
 no : r = false → srch lg hs (okc ((t : Int) + 1) k) 4 (levA hs ((f : Int) + 1) i) = none
 yes : r = true → ∃ c r1 r2 fa fn fc qs, srch lg hs (okc ((t : Int) + 1) k) 4 (levA hs ((f : Int) + 1) i) = some c ∧ PrS lg c i k W CL r1 r2 fa fn fc qs
theorem PrS.ext {lg : Int → List En} {c : Ch} {i k : Nat} {W W' : World} {CL : List Value} {r1 r2 : RcR} {fa : Option Addr} {fn fc : Nat} {qs : List HpR} (h : PrS lg c i k W CL r1 r2 fa fn fc qs) (hx : Ext W W') : PrS lg c i k W' CL r1 r2 fa fn fc qs :=
 ⟨h.is_, h.len, h.one, h.h1, h.h2, h.p1.ext hx, h.p2.ext hx, h.num, h.row.ext hx, fun m hm => (h.hop m hm).ext hx⟩
theorem FdR.ext {lg : Int → List En} {hs : List Hd} {f i t k : Nat} {CL : List Value} {r : Bool} {W W' : World} (h : FdR lg hs f i t k CL r W) (hx : Ext W W') : FdR lg hs f i t k CL r W' :=
 ⟨h.len, h.one, h.no, fun e => let ⟨c, r1, r2, fa, fn, fc, qs, h1, h2⟩ := h.yes e; ⟨c, r1, r2, fa, fn, fc, qs, h1, h2.ext hx⟩⟩
def FdX (w : World) (lg : Int → List En) (hs : List Hd) (f i t k : Nat) : Ending → World → Prop := fun e w' =>
 ∃ CL r, e = .returned (.tuple #[.agg CL.toArray, .bool r, .int .i64 0]) ∧ FdR lg hs f i t k CL r w' ∧ Ext w w'
theorem find_any {base : Nat} {W : World} {b6 key : Nat} {s : Ps} {ob oc : Nat} {ta : Option Addr} {tc : Nat} {ha : Option Addr} {hn hc : Nat} {ka : Option Addr} {kc : Nat} {os : List OfR} {ts : List TsR}
  (P : PRep base W b6 key s (some ⟨ob, 0, none⟩) oc ta tc ha hn hc ka kc os ts) {n : Nat} (H : PsOk key s n) (hn24 : n ≤ 24) {xa : Option Addr} {xn xc : Nat} {cs : List Hd} (hx : Rw W xa xn xc cs) (h12 : xn ≤ 12) (hs : ∀ h, h ∈ cs → h ∈ s.hs)
  {f i t k : Nat} (hf : f < 3) (hi : i < (s.lg f).length) (ht : t < 3) (hk : k < (s.lg t).length) (tb : TB W) :
  Calls Tryz.prog 12 #[.slice (some ⟨ob, 0, none⟩) 3 oc, .slice xa xn xc, .int .i64 ((f : Int) + 1), .int .i64 i, .int .i64 ((t : Int) + 1), .int .i64 k] W (FdX W (lgF s) cs f i t k) := by
 have e1 := (P.ids f hf).1
 have e2 := (P.ids t ht).1
 have l1 := (P.ids f hf).2.1
 have l2 := (P.ids t ht).2.1
 have A := P.arc H hn24 hx h12
 have HH := P.heldAll H hx.hlen hs
 have eL := P.lgO
 cases hS : srch (lgF s) cs (okc ((t : Int) + 1) k) 4 (levA cs ((f : Int) + 1) i) with
 | none =>
  have h := find_no A HH f i t k hf (by omega) ht (by omega) (by rw [eL, e1, e2]; exact hS) tb
  rw [e1, e2] at h
  exact h.mono fun e w' ⟨h1, h2⟩ => ⟨_, false, h1, ⟨rfl, (by intro v hv; simp only [List.mem_cons, List.not_mem_nil, or_false] at hv; rcases hv with rfl | rfl | rfl | rfl | rfl | rfl | rfl | rfl | rfl | rfl | rfl | rfl | rfl | rfl | rfl | rfl | rfl | rfl | rfl | rfl | rfl | rfl <;> rfl), fun _ => hS, (fun e => by cases e)⟩, h2⟩
 | some c0 =>
  have h := find_yes A HH f i t k hf (by omega) ht (by omega) (c0 := c0) (by rw [eL, e1, e2]; exact hS) tb
  rw [e1, e2, eL] at h
  exact h.mono fun e w' ⟨CL, r1, r2, fa, fn, fc, qs, h1, h2, h3⟩ => ⟨CL, true, h1, ⟨h2.len, h2.one, (fun e => by cases e), fun _ => ⟨c0, r1, r2, fa, fn, fc, qs, hS, h2⟩⟩, h3⟩
theorem FdR.check {key n : Nat} {s : Ps} (H : PsOk key s n) (hn : n ≤ 24) {cs : List Hd} (hs : ∀ h, h ∈ cs → h ∈ s.hs) {f i t k : Nat} {CL : List Value} {W : World} (h : FdR (lgF s) cs f i t k CL true W) {ka : Option Addr} {kc : Nat} (K : Sl .i64 W ka 3 kc (psK key)) (tb : TB W) :
  Calls Tryz.prog 14 #[.slice ka 3 kc, .agg CL.toArray] W fun e9 w' => e9 = .returned (.tuple #[.bool true, .int .i64 0]) ∧ Ext W w' := by
 obtain ⟨c, r1, r2, fa, fn, fc, qs, hS, hP⟩ := h.yes rfl
 obtain ⟨HC, h4, hlo, hks, hat⟩ := srch_ok hS
 exact check_found K (by omega) (psK_keys key) HC h4 hks hat (fun h hh => H.logOk hn (hs h hh)) hP tb
section
variable {B : Nat} {W W' : World} {hs : List Hd} {jc jd : Nat} {ca : Option Addr} {cn cc : Nat} {cs : List Hd} {da : Option Addr} {dn dc : Nat} {ds : List Hd}
end
end Go.Proofs.YtacicanjmleikaaGreatDoor
