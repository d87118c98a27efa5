
import Derived.Test.YtacicanjmleikaaGreatDoorGr26
/- A part of the proof. -/
namespace Go.Proofs.YtacicanjmleikaaGreatDoor
open Go.RowKit Go.Sort Go.Shelf Go.Maps
set_option linter.unusedSimpArgs false
set_option linter.unusedVariables false
set_option maxRecDepth 100000
def RNw (B : Nat) (T : TypeId) (C : Array Value) : RelL Ext := ⟨none, fun _ v W => ∃ b, v = .pointer (some ⟨b, 0, none⟩) ∧ B ≤ b ∧ Bk W b T C, fun _ _ _ _ ⟨b, h1, h2, h3⟩ hE => ⟨b, h1, h2, h3.ext hE⟩⟩
def RAt (j B : Nat) (T : TypeId) (C : Array Value) : RelL Ext := ⟨some j, fun u _ W => ∃ b, u = .pointer (some ⟨b, 0, none⟩) ∧ B ≤ b ∧ Bk W b T C, fun _ _ _ _ ⟨b, h1, h2, h3⟩ hE => ⟨b, h1, h2, h3.ext hE⟩⟩
def ROa (B : Nat) (id : Int) (n : Nat) (es : List En) : RelL Ext := ⟨none, fun _ v W => ∃ a c, v = .tuple #[.agg #[.int .i64 id, .slice a n c], .int .i64 0] ∧ OwR RE B W a n c es, fun _ _ _ _ ⟨a, c, h1, h2⟩ hE => ⟨a, c, h1, h2.ext hE⟩⟩
def ROb (B : Nat) (id : Int) (n : Nat) (es : List En) : RelL Ext := ⟨none, fun _ v W => ∃ a c, v = .agg #[.int .i64 id, .slice a n c] ∧ OwR RE B W a n c es, fun _ _ _ _ ⟨a, c, h1, h2⟩ hE => ⟨a, c, h1, h2.ext hE⟩⟩
def RAo (j B : Nat) (id : Int) (n : Nat) (es : List En) : RelL Ext := ⟨some j, fun u _ W => ∃ b a c, u = .pointer (some ⟨b, 0, none⟩) ∧ B ≤ b ∧ Bk W b RO #[.int .i64 id, .slice a n c] ∧ OwR RE B W a n c es, fun _ _ _ _ ⟨b, a, c, h1, h2, h3, h4⟩ hE => ⟨b, a, c, h1, h2, h3.ext hE, h4.ext hE⟩⟩
theorem rao_store {B b : Nat} {id : Int} {n : Nat} {es : List En} {W : World} {a : Option Addr} {c : Nat} (hge : B ≤ b) (hb : Bk W b RO #[.int .i64 0, .slice none 0 0]) (ho : OwR RE B W a n c es) :
  ∃ b' a' c', (Value.pointer (some ⟨b, 0, none⟩)) = .pointer (some ⟨b', 0, none⟩) ∧ B ≤ b' ∧ Bk ((W.setCell ⟨b, 0, none⟩ (.int .i64 id)).setCell ⟨b, 1, none⟩ (.slice a n c)) b' RO #[.int .i64 id, .slice a' n c'] ∧ OwR RE B ((W.setCell ⟨b, 0, none⟩ (.int .i64 id)).setCell ⟨b, 1, none⟩ (.slice a n c)) a' n c' es :=
 ⟨b, a, c, rfl, hge, hb.set2 _ _, (ho.setTag hb.tag (by decide) 0 _).setTag ((hb.set 0 _).tag) (by decide) 1 _⟩
theorem own_free {α : Type} [Cel α] {E : TypeId} {base : Nat} {W : World} {g n c : Nat} {xs : List α} (h : OwR E base W (some ⟨g, 0, none⟩) n c xs) (i : Nat) : W.frozen? ⟨g, i, none⟩ = false := by
 obtain ⟨_, _, h2⟩ := h
 rcases h2 with ⟨e, _⟩ | ⟨g', cap, cur, hv, _, hh, _⟩
 ·cases e
 ·simp only [Value.slice.injEq, Option.some.injEq, Addr.mk.injEq, and_true, true_and] at hv
  obtain ⟨rfl, _⟩ := hv
  exact free_of_block hh i
theorem own_or {k : IntKind} {T : TypeId} {base : Nat} {W : World} {a : Option Addr} {n c g : Nat} {xs : List Int} (ho : OwI k T base W a n c xs) (h : (Value.slice a n c).ownBlock = some g ∨ g = W.heap.size) : a = some ⟨g, 0, none⟩ ∨ W.heap.size ≤ g := by
 rcases h with h | h
 ·rcases ho.head0I with ⟨e, _⟩ | ⟨q, e⟩
  ·subst e; cases h
  ·subst e
   have h9 : q = g := Option.some.inj h
   rw [h9]; exact .inl rfl
 ·exact .inr (by omega)
theorem roa_keep {B b : Nat} {id x : Int} {n m c' : Nat} {es : List En} {W : World} {a' : Option Addr} {v : Value} (hb : Bk W b RO #[.int .i64 0, .slice none 0 0]) (h : ∃ a c, v = .tuple #[.agg #[.int .i64 id, .slice a n c], .int .i64 0] ∧ OwR RE B W a n c es) :
  ∃ a c, v = .tuple #[.agg #[.int .i64 id, .slice a n c], .int .i64 0] ∧ OwR RE B ((W.setCell ⟨b, 0, none⟩ (.int .i64 x)).setCell ⟨b, 1, none⟩ (.slice a' m c')) a n c es := by
 obtain ⟨p, q, h1, h2⟩ := h
 exact ⟨p, q, h1, (h2.setTag hb.tag (by decide) 0 _).setTag ((hb.set 0 _).tag) (by decide) 1 _⟩
def GrT (U W : World) (tb : Nat) (x : TsR) (tm : List Int) (T : Int) (g c : Nat) : Prop :=
 ∃ W0, Ext U W0 ∧ W0.grownBy W (Value.slice x.a x.n x.c).ownBlock ∧ OwI .i64 RI tb W (some ⟨g, 0, none⟩) (x.n + 1) c (tm ++ [T]) ∧ (x.a = some ⟨g, 0, none⟩ ∨ W0.heap.size ≤ g) ∧ Below tb W0 W
structure R30 (U : World) (tb b6 ob oc b16 k : Nat) (C6 : Array Value) (ov : OfR) (os : List OfR) (ts : List TsR) (tm : List Int) (T : Int) (listed : Nat → Bool) (vs : List Value) (W : World) : Prop where
 sz : tb ≤ W.heap.size
 p6 : Bk W b6 RPs C6
 p16 : listed 16 = false → Bk W b16 RO #[.int .i64 ov.id, .slice ov.a ov.n ov.c]
 row : listed 16 = false → OwR RO tb W (some ⟨ob, 0, none⟩) 3 oc os
 tim : listed 18 = false → OwR RIS tb W (some ⟨tb, 0, none⟩) 3 3 ts
 q0 : listed 14 = false → Ext U W
 q1 : listed 14 = true → listed 16 = false → ∃ g c, vs.getD 14 undef = .slice (some ⟨g, 0, none⟩) ((nthR ts k).n + 1) c ∧ GrT U W tb (nthR ts k) tm T g c
 q2 : listed 16 = true → listed 18 = false → ∃ g c W1, vs.getD 14 undef = .slice (some ⟨g, 0, none⟩) ((nthR ts k).n + 1) c ∧ GrT U W1 tb (nthR ts k) tm T g c ∧ W = W1.setCells ob (k * 2) [.int .i64 ov.id, .slice ov.a ov.n ov.c]
 q3 : listed 18 = true → ∃ g c W1, GrT U W1 tb (nthR ts k) tm T g c ∧ W = (W1.setCells ob (k * 2) [.int .i64 ov.id, .slice ov.a ov.n ov.c]).setCells tb k [.slice (some ⟨g, 0, none⟩) ((nthR ts k).n + 1) c]
section
variable {U : World} {tb b6 ob oc b16 k : Nat} {C6 : Array Value} {ov : OfR} {os : List OfR} {ts : List TsR} {tm : List Int} {T : Int} {listed : Nat → Bool} {vs : List Value} {W W' : World}
theorem getD_setNe {vs : List Value} {j k : Nat} {v : Value} (h : j ≠ k) : (vs.set j v).getD k undef = vs.getD k undef := by
 simp [List.getD_eq_getElem?_getD, List.getElem?_set_ne h]
theorem R30.same (h : R30 U tb b6 ob oc b16 k C6 ov os ts tm T listed vs W) {j : Nat} (h14 : j ≠ 14) (h16 : j ≠ 16) (h18 : j ≠ 18) (v : Value) : R30 U tb b6 ob oc b16 k C6 ov os ts tm T (updE listed j) (vs.set j v) W := by
 have e14 : updE listed j 14 = listed 14 := by simp [updE, h14.symm]
 have e16 : updE listed j 16 = listed 16 := by simp [updE, h16.symm]
 have e18 : updE listed j 18 = listed 18 := by simp [updE, h18.symm]
 have eg : (vs.set j v).getD 14 undef = vs.getD 14 undef := getD_setNe h14
 refine ⟨h.sz, h.p6, ?_, ?_, ?_, ?_, ?_, ?_, ?_⟩
 ·rw [e16]; exact h.p16
 ·rw [e16]; exact h.row
 ·rw [e18]; exact h.tim
 ·rw [e14]; exact h.q0
 ·rw [e14, e16, eg]; exact h.q1
 ·rw [e16, e18, eg]; exact h.q2
 ·rw [e18]; exact h.q3
theorem R30.lay (h : R30 U tb b6 ob oc b16 k C6 ov os ts tm T listed vs W) (n14 : listed 14 = false) (n16 : listed 16 = false) (n18 : listed 18 = false) (hx : Ext W W') (v : Value) : R30 U tb b6 ob oc b16 k C6 ov os ts tm T (updE listed 13) (vs.set 13 v) W' := by
 have e14 : updE listed 13 14 = listed 14 := by simp [updE]
 have e16 : updE listed 13 16 = listed 16 := by simp [updE]
 have e18 : updE listed 13 18 = listed 18 := by simp [updE]
 refine ⟨Nat.le_trans h.sz hx.sz, h.p6.ext hx, ?_, ?_, ?_, ?_, ?_, ?_, ?_⟩
 ·rw [e16]; exact fun e => (h.p16 e).ext hx
 ·rw [e16]; exact fun e => (h.row e).ext hx
 ·rw [e18]; exact fun e => (h.tim e).ext hx
 ·rw [e14]; exact fun e => (h.q0 e).trans hx
 ·rw [e14, n14]; exact fun e => by cases e
 ·rw [e16, n16]; exact fun e => by cases e
 ·rw [e18, n18]; exact fun e => by cases e
theorem R30.grow (h : R30 U tb b6 ob oc b16 k C6 ov os ts tm T listed vs W) (hl : vs.length = 19) (n14 : listed 14 = false) (n16 : listed 16 = false) (n18 : listed 18 = false) (ho : OwI .i64 RI tb W (nthR ts k).a (nthR ts k).n (nthR ts k).c tm) {g c : Nat}
  (hown : OwI .i64 RI tb W' (some ⟨g, 0, none⟩) ((nthR ts k).n + 1) c (tm ++ [T])) (hB : Below tb W W') (hG : W.grownBy W' (Value.slice (nthR ts k).a (nthR ts k).n (nthR ts k).c).ownBlock) (hn : (nthR ts k).a = some ⟨g, 0, none⟩ ∨ W.heap.size ≤ g) :
  R30 U tb b6 ob oc b16 k C6 ov os ts tm T (updE listed 14) (vs.set 14 (.slice (some ⟨g, 0, none⟩) ((nthR ts k).n + 1) c)) W' := by
 have hc := own_casesI ho hG
 refine ⟨Nat.le_trans h.sz hG.size, h.p6.growOwn hc (by decide), fun _ => (h.p16 n16).growOwn hc (by decide), fun _ => (h.row n16).growOwn hc (by decide), fun _ => (h.tim n18).growOwn hc (by decide), fun e => by simp [updE] at e, fun _ _ => ⟨g, c, ?_, W, h.q0 n14, hG, hown, hn, hB⟩, fun e => by simp [updE, n16] at e, fun e => by simp [updE, n18] at e⟩
 simp [List.getD_eq_getElem?_getD, hl]
theorem R30.put (h : R30 U tb b6 ob oc b16 k C6 ov os ts tm T listed vs W) (i14 : listed 14 = true) (n16 : listed 16 = false) (n18 : listed 18 = false) (v : Value) :
  R30 U tb b6 ob oc b16 k C6 ov os ts tm T (updE listed 16) (vs.set 16 v) (W.setCells ob (k * 2) [.int .i64 ov.id, .slice ov.a ov.n ov.c]) := by
 obtain ⟨g, c, e1, h1⟩ := h.q1 i14 n16
 have ht := (h.row n16).tag
 refine ⟨by rw [size_setCells]; exact h.sz, h.p6.cellsTag ht (by decide) _ _, fun e => by simp [updE] at e, fun e => by simp [updE] at e, fun _ => (h.tim n18).cellsTag ht (by decide) _ _, fun e => by simp [updE, i14] at e, fun _ e => by simp [updE] at e, fun _ _ => ⟨g, c, W, ?_, h1, rfl⟩, fun e => by simp [updE, n18] at e⟩
 rw [getD_setNe (by decide)]; exact e1
theorem R30.fin (h : R30 U tb b6 ob oc b16 k C6 ov os ts tm T listed vs W) (i14 : listed 14 = true) (i16 : listed 16 = true) (n18 : listed 18 = false) (v : Value) :
  ∃ g c, vs.getD 14 undef = .slice (some ⟨g, 0, none⟩) ((nthR ts k).n + 1) c ∧ R30 U tb b6 ob oc b16 k C6 ov os ts tm T (updE listed 18) (vs.set 18 v) (W.setCells tb k [.slice (some ⟨g, 0, none⟩) ((nthR ts k).n + 1) c]) := by
 obtain ⟨g, c, W1, e1, h1, e2⟩ := h.q2 i16 n18
 have ht := (h.tim n18).tag
 refine ⟨g, c, e1, by rw [size_setCells]; exact h.sz, h.p6.cellsTag ht (by decide) _ _, fun e => by simp [updE, i16] at e, fun e => by simp [updE, i16] at e, fun e => by simp [updE] at e, fun e => by simp [updE, i14] at e, fun _ e => by simp [updE, i16] at e, fun _ e => by simp [updE] at e, fun _ => ⟨g, c, W1, h1, ?_⟩⟩
 rw [e2]
end
theorem set4_block {W : World} {b g : Nat} (hne : g ≠ b) (v0 v1 v2 v3 : Value) : ((((W.setCell ⟨b, 0, none⟩ v0).setCell ⟨b, 1, none⟩ v1).setCell ⟨b, 2, none⟩ v2).setCell ⟨b, 3, none⟩ v3).heap[g]? = W.heap[g]? := by
 rw [heap_setCell_other _ ⟨b, 3, none⟩ g v3 hne, heap_setCell_other _ ⟨b, 2, none⟩ g v2 hne, heap_setCell_other _ ⟨b, 1, none⟩ g v1 hne, heap_setCell_other _ ⟨b, 0, none⟩ g v0 hne]
theorem R30.done {U V : World} {tb b6 ob oc b16 k : Nat} {key : Nat} {s : Ps} {ha : Option Addr} {hn hc : Nat} {ka : Option Addr} {kc : Nat} {C6 : Array Value} {a' : Option Addr} {c' : Nat} {os : List OfR} {ts : List TsR} {e : En} {T : Int} {listed : Nat → Bool} {vs : List Value} {W : World}
  (h : R30 U tb b6 ob oc b16 k C6 ⟨(k : Int) + 1, a', (s.lg k).length + 1, c'⟩ os ts (s.tm k) T listed vs W) (i18 : listed 18 = true) (hP : PRep tb U b6 key s (some ⟨ob, 0, none⟩) oc (some ⟨tb, 0, none⟩) 3 ha hn hc ka kc os ts) (hk : k < 3)
  (hlog : OwR RE tb U a' ((s.lg k).length + 1) c' (s.lg k ++ [e])) (hV : Ext V U) (hvt : V.heap.size = tb) :
  ∃ oc' os' ts', PRep tb W b6 key ⟨T, updN s.lg k (s.lg k ++ [e]), updN s.tm k (s.tm k ++ [T]), s.hs, s.st⟩ (some ⟨ob, 0, none⟩) oc' (some ⟨tb, 0, none⟩) 3 ha hn hc ka kc os' ts' ∧ Ext V W := by
 obtain ⟨g, c, W1, ⟨W0, hx, hG, hown, hnew, hB⟩, e2⟩ := h.q3 i18
 have hob : tb ≤ ob := by
  rcases hP.off.headAt with ⟨e9, _⟩ | ⟨q, e9, hq, _⟩
  ·cases e9
  ·simp only [Option.some.injEq, Addr.mk.injEq, and_true] at e9; omega
 have h1 := (hP.ext hx).log hk rfl rfl (hlog.ext hx) hG hown (fun g9 e9 => by
  simp only [Option.some.injEq, Addr.mk.injEq, and_true] at e9
  subst e9
  exact hnew)
 refine ⟨_, _, _, e2 ▸ h1, ?_⟩
 rw [e2]
 have h2 : Ext V W1 := Below.trans (hV.trans hx) (hB.mono (by omega))
 exact Ext.cells (by omega) _ _ (Ext.cells (by omega) _ _ h2)
end Go.Proofs.YtacicanjmleikaaGreatDoor
