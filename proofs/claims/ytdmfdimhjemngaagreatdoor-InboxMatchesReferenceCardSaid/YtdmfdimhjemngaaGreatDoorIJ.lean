/-
  The copy of a box that shares nothing with it: the package, walked. Written by wip/gen_ij.py.
-/
import Derived.Test.YtdmfdimhjemngaaGreatDoorIH
namespace Go.Proofs.YtdmfdimhjemngaaGreatDoor
open Go.RowKit Go.Sort Go.Shelf
set_option linter.unusedSimpArgs false
set_option linter.unusedVariables false
set_option maxRecDepth 100000


theorem cloneI_any (a : Option Addr) (n c : Nat) (xs : List Int) (w : World) (h1 : Sl .i64 w a n c xs) (hs : n ≤ 1000) :
    Calls Tryz.prog 45 #[.slice a n c] w fun e w' => ∃ a' c', e = .returned (.slice a' n c') ∧ OwI .i64 3 w.heap.size w' a' n c' xs ∧ Ext w w' := by
  have bd := h1.bd
  have hnil := fun (W : World) => Lib.run_eql_slice_nil (P := Tryz.prog) W 25 3 a n c 0 0 Tryz.underlying25
  rcases a with _ | ad
  · obtain rfl : n = 0 := by
      rcases Nat.eq_zero_or_pos n with h | h
      · exact h
      · obtain ⟨_, _, e, _⟩ := h1.at h; cases e
    obtain rfl : xs = [] := List.eq_nil_of_length_eq_zero h1.hlen
    go_enter Tryz.func45, Tryz.ntmps45
    go_wp2_with fail
    go_ret
    exact ⟨none, 0, rfl, OwI.nil _ _ _ _, Ext.refl w⟩
  · have ho0 := OwI.lit .i64 3 (base := w.heap.size) w [] (Nat.le_refl _) (by simp [maxLen]) #[] rfl
    have h2 := h1.ext ((Ext.refl w).alloc (.cells #[] 3))
    go_enter Tryz.func45, Tryz.ntmps45
    go_wp2_with (at_builtin; refine appA el_i64 rfl _ _ rfl _ w.heap.size _ _ _ _ rfl ho0 _ _ _ _ rfl h2 (by simp) (by unfold maxLen; simp; omega) (by simp <;> omega) ?_; intro a' c' w' ho hB; refine hold ?_)
    refine held ?_
    simp only [List.length_nil, Nat.zero_add, List.nil_append] at ho ⊢
    go_wp2_with fail
    go_ret
    exact ⟨a', c', rfl, ho, Below.trans ((Ext.refl w).alloc _) hB⟩

/-! ### What is said of the box's block while the region draws its order -/
/-- The slice lies in blocks from B on. -/
def Frsh (B : Nat) (a : Option Addr) (n : Nat) : Prop := ∀ b off, a = some ⟨b, off, none⟩ → 0 < n → B ≤ b
def Aprt (pb : Nat) (a : Option Addr) (n : Nat) : Prop := ∀ b off, a = some ⟨b, off, none⟩ → 0 < n → b ≠ pb
def Headed (a : Option Addr) (c : Nat) : Prop := (a = none ∧ c = 0) ∨ ∃ g, a = some ⟨g, 0, none⟩
def VAs (pb n : Nat) (xs : List Int) (v : Value) (W : World) : Prop := ∃ a c, v = .slice a n c ∧ Sl .i64 W a n c xs ∧ Aprt pb a n
def VGo (pb n : Nat) (xs : List Rp) (v : Value) (W : World) : Prop := ∃ a c, v = .slice a n c ∧ Rw W a n c xs ∧ Aprt pb a n
def FAs (B n : Nat) (xs : List Int) (v : Value) (W : World) : Prop := ∃ a c, v = .slice a n c ∧ Sl .i64 W a n c xs ∧ Frsh B a n
def FGo (B n : Nat) (xs : List Rp) (v : Value) (W : World) : Prop := ∃ a c, v = .slice a n c ∧ Rw W a n c xs ∧ Frsh B a n ∧ Headed a c
def CAs (B pb n : Nat) (xs : List Int) (W : World) : Prop := ∃ v, W.cell? ⟨pb, 5, none⟩ = some v ∧ FAs B n xs v W
def CGo (B pb n : Nat) (xs : List Rp) (W : World) : Prop := ∃ v, W.cell? ⟨pb, 6, none⟩ = some v ∧ FGo B n xs v W
/-- All blocks but the box's stay; what the box holds of its own stays so. -/
def StB (B pb n m : Nat) (xs : List Int) (ys : List Rp) (W W' : World) : Prop := W.grownBy W' (some pb) ∧ (CAs B pb n xs W → CAs B pb n xs W') ∧ (CGo B pb m ys W → CGo B pb m ys W')

theorem VAs.by {pb n : Nat} {xs : List Int} {v : Value} {W W' : World} (h : VAs pb n xs v W) (hg : W.grownBy W' (some pb)) : VAs pb n xs v W' := by
  obtain ⟨a, c, rfl, h1, h2⟩ := h
  refine ⟨a, c, rfl, h1.below (fun b off ha hn => hg.block b ?_ (fun e => h2 b off ha hn (Option.some.inj e))), h2⟩
  obtain ⟨x, hx⟩ := h1.not_row ha hn
  exact lt_of_cell hx
theorem VGo.by {pb n : Nat} {xs : List Rp} {v : Value} {W W' : World} (h : VGo pb n xs v W) (hg : W.grownBy W' (some pb)) : VGo pb n xs v W' := by
  obtain ⟨a, c, rfl, h1, h2⟩ := h
  exact ⟨a, c, rfl, h1.below (fun b off ha hn => hg.block b (h1.lt ha hn) (fun e => h2 b off ha hn (Option.some.inj e))), h2⟩
theorem FAs.ap {B pb n : Nat} {xs : List Int} {v : Value} {W : World} (h : FAs B n xs v W) (hp : pb < B) : VAs pb n xs v W := by
  obtain ⟨a, c, rfl, h1, h2⟩ := h
  exact ⟨a, c, rfl, h1, fun b off ha hn => by have := h2 b off ha hn; omega⟩
theorem FGo.ap {B pb n : Nat} {xs : List Rp} {v : Value} {W : World} (h : FGo B n xs v W) (hp : pb < B) : VGo pb n xs v W := by
  obtain ⟨a, c, rfl, h1, h2, _⟩ := h
  exact ⟨a, c, rfl, h1, fun b off ha hn => by have := h2 b off ha hn; omega⟩
theorem FAs.by {B pb n : Nat} {xs : List Int} {v : Value} {W W' : World} (h : FAs B n xs v W) (hp : pb < B) (hg : W.grownBy W' (some pb)) : FAs B n xs v W' := by
  obtain ⟨a, c, rfl, h1, h2⟩ := (h.ap hp).by hg
  obtain ⟨a', c', he, h3, h4⟩ := h
  simp only [Value.slice.injEq, true_and] at he
  obtain ⟨rfl, rfl⟩ := he
  exact ⟨a, c, rfl, h1, h4⟩
theorem FGo.by {B pb n : Nat} {xs : List Rp} {v : Value} {W W' : World} (h : FGo B n xs v W) (hp : pb < B) (hg : W.grownBy W' (some pb)) : FGo B n xs v W' := by
  obtain ⟨a, c, rfl, h1, h2⟩ := (h.ap hp).by hg
  obtain ⟨a', c', he, h3, h4⟩ := h
  simp only [Value.slice.injEq, true_and] at he
  obtain ⟨rfl, rfl⟩ := he
  exact ⟨a, c, rfl, h1, h4⟩
theorem StB.ext {B pb n m : Nat} {xs : List Int} {ys : List Rp} {W W' : World} (h : Ext W W') (hp : pb < B) : StB B pb n m xs ys W W' := by
  have hg : W.grownBy W' (some pb) := ⟨h.os, h.tape, h.output, h.size, fun k hk _ => h.block k hk⟩
  exact ⟨hg, fun ⟨v, h1, h2⟩ => ⟨v, h.cell h1, h2.by hp hg⟩, fun ⟨v, h1, h2⟩ => ⟨v, h.cell h1, h2.by hp hg⟩⟩
theorem StB.set {B pb n m : Nat} {xs : List Int} {ys : List Rp} {W : World} (hp : pb < B) (j : Nat) (u : Value) (h5 : j = 5 → FAs B n xs u W ∧ (W.cell? ⟨pb, 5, none⟩).isSome = true) (h6 : j = 6 → FGo B m ys u W ∧ (W.cell? ⟨pb, 6, none⟩).isSome = true) : StB B pb n m xs ys W (W.setCell ⟨pb, j, none⟩ u) := by
  have hg : W.grownBy (W.setCell ⟨pb, j, none⟩ u) (some pb) := ⟨rfl, rfl, rfl, (KeepsOthers.setCell W _ _).size, fun k hk hkb => heap_setCell_other W ⟨pb, j, none⟩ k u (fun e => hkb (by rw [e]))⟩
  refine ⟨hg, fun ⟨v, h1, h2⟩ => ?_, fun ⟨v, h1, h2⟩ => ?_⟩
  · by_cases hj : j = 5
    · subst hj
      exact ⟨u, World.cell?_setCell_same' W _ u (h5 rfl).2, ((h5 rfl).1).by hp hg⟩
    · exact ⟨v, (World.cell?_setCell_other W ⟨pb, j, none⟩ ⟨pb, 5, none⟩ u (by simp <;> omega)).trans h1, h2.by hp hg⟩
  · by_cases hj : j = 6
    · subst hj
      exact ⟨u, World.cell?_setCell_same' W _ u (h6 rfl).2, ((h6 rfl).1).by hp hg⟩
    · exact ⟨v, (World.cell?_setCell_other W ⟨pb, j, none⟩ ⟨pb, 6, none⟩ u (by simp <;> omega)).trans h1, h2.by hp hg⟩

/-! ### A whole box stored -/
set_option maxHeartbeats 2000000 in
theorem Bk.set7 {W : World} {b : Nat} {T : TypeId} {u0 u1 u2 u3 u4 u5 u6 : Value} (h : Bk W b T #[u0, u1, u2, u3, u4, u5, u6]) (v0 v1 v2 v3 v4 v5 v6 : Value) : Bk (((((((W.setCell ⟨b, 0, none⟩ v0).setCell ⟨b, 1, none⟩ v1).setCell ⟨b, 2, none⟩ v2).setCell ⟨b, 3, none⟩ v3).setCell ⟨b, 4, none⟩ v4).setCell ⟨b, 5, none⟩ v5).setCell ⟨b, 6, none⟩ v6) b T #[v0, v1, v2, v3, v4, v5, v6] := ((((((h.set 0 v0).set 1 v1).set 2 v2).set 3 v3).set 4 v4).set 5 v5).set 6 v6
theorem Ext.set7 {w W : World} {b : Nat} (hE : Ext w W) (hb : w.heap.size ≤ b) (v0 v1 v2 v3 v4 v5 v6 : Value) : Ext w (((((((W.setCell ⟨b, 0, none⟩ v0).setCell ⟨b, 1, none⟩ v1).setCell ⟨b, 2, none⟩ v2).setCell ⟨b, 3, none⟩ v3).setCell ⟨b, 4, none⟩ v4).setCell ⟨b, 5, none⟩ v5).setCell ⟨b, 6, none⟩ v6) := ((((((hE.setCell (p := ⟨b, 0, none⟩) hb _).setCell (p := ⟨b, 1, none⟩) hb _).setCell (p := ⟨b, 2, none⟩) hb _).setCell (p := ⟨b, 3, none⟩) hb _).setCell (p := ⟨b, 4, none⟩) hb _).setCell (p := ⟨b, 5, none⟩) hb _).setCell (p := ⟨b, 6, none⟩) hb _
theorem set7_other {W : World} {b k : Nat} (hk : k ≠ b) (v0 v1 v2 v3 v4 v5 v6 : Value) : (((((((W.setCell ⟨b, 0, none⟩ v0).setCell ⟨b, 1, none⟩ v1).setCell ⟨b, 2, none⟩ v2).setCell ⟨b, 3, none⟩ v3).setCell ⟨b, 4, none⟩ v4).setCell ⟨b, 5, none⟩ v5).setCell ⟨b, 6, none⟩ v6).heap[k]? = W.heap[k]? := by
  have h := fun (W : World) (i : Nat) (v : Value) => heap_setCell_other W ⟨b, i, none⟩ k v hk
  rw [h, h, h, h, h, h, h]
theorem Sl.set7 {W : World} {b : Nat} {k : IntKind} {a : Option Addr} {n c : Nat} {xs : List Int} (h : Sl k W a n c xs) (hb : Aprt b a n) (v0 v1 v2 v3 v4 v5 v6 : Value) : Sl k (((((((W.setCell ⟨b, 0, none⟩ v0).setCell ⟨b, 1, none⟩ v1).setCell ⟨b, 2, none⟩ v2).setCell ⟨b, 3, none⟩ v3).setCell ⟨b, 4, none⟩ v4).setCell ⟨b, 5, none⟩ v5).setCell ⟨b, 6, none⟩ v6) a n c xs := h.below (fun b' off ha hn => set7_other (hb b' off ha hn) _ _ _ _ _ _ _)
theorem Rw.set7 {W : World} {b : Nat} {a : Option Addr} {n c : Nat} {xs : List Rp} (h : Rw W a n c xs) (hb : Aprt b a n) (v0 v1 v2 v3 v4 v5 v6 : Value) : Rw (((((((W.setCell ⟨b, 0, none⟩ v0).setCell ⟨b, 1, none⟩ v1).setCell ⟨b, 2, none⟩ v2).setCell ⟨b, 3, none⟩ v3).setCell ⟨b, 4, none⟩ v4).setCell ⟨b, 5, none⟩ v5).setCell ⟨b, 6, none⟩ v6) a n c xs := h.below (fun b' off ha hn => set7_other (hb b' off ha hn) _ _ _ _ _ _ _)
theorem Frsh.ap {B pb : Nat} {a : Option Addr} {n : Nat} (h : Frsh B a n) (hp : pb < B) : Aprt pb a n := fun b off ha hn => by have := h b off ha hn; omega
theorem OwI.frsh {k : IntKind} {E : TypeId} {base : Nat} {w : World} {a : Option Addr} {n c : Nat} {xs : List Int} (h : OwI k E base w a n c xs) : Frsh base a n := by
  intro b off ha hn
  rcases h.2 with ⟨hv, h0⟩ | ⟨g, cap, cur, hv, hg, _⟩
  · omega
  · simp only [Value.slice.injEq] at hv
    rw [ha] at hv
    simp only [Option.some.injEq, Addr.mk.injEq] at hv
    omega
theorem OwR.frsh {E : TypeId} {base : Nat} {w : World} {a : Option Addr} {n c : Nat} {xs : List Rp} (h : OwR E base w a n c xs) : Frsh base a n ∧ Headed a c := by
  rcases h.2.2 with ⟨hv, h0⟩ | ⟨g, cap, cur, hv, hg, _⟩
  · simp only [Value.slice.injEq] at hv
    exact ⟨fun b off ha hn => by omega, .inl ⟨hv.1, hv.2.2⟩⟩
  · simp only [Value.slice.injEq] at hv
    refine ⟨fun b off ha hn => ?_, .inr ⟨g, hv.1⟩⟩
    rw [ha] at hv
    simp only [Option.some.injEq, Addr.mk.injEq] at hv
    omega
theorem Frsh.mono {B B' : Nat} {a : Option Addr} {n : Nat} (h : Frsh B a n) (hB : B' ≤ B) : Frsh B' a n := fun b off ha hn => Nat.le_trans hB (h b off ha hn)

theorem res_copied (W : World) (b : Nat) (v0 v1 v2 v3 v4 v5 v6 : Value) (tmps : Array Value) (h4 : tmps[2]?.getD undef = .pointer (some ⟨b, 0, none⟩)) (h : Bk W b 29 #[v0, v1, v2, v3, v4, v5, v6]) :
    (results Tryz.f23 tmps).run Tryz.prog W = .ok (.agg #[v0, v1, v2, v3, v4, v5, v6]) W := by
  have c0 := h.c 0 _ rfl
  have c1 := h.c 1 _ rfl
  have c2 := h.c 2 _ rfl
  have c3 := h.c 3 _ rfl
  have c4 := h.c 4 _ rfl
  have c5 := h.c 5 _ rfl
  have c6 := h.c 6 _ rfl
  simp [results, Tryz.results23, go_sem, h4, c0, c1, c2, c3, c4, c5, c6]

/-- The box's block holds a box that reads as b. -/
def IBx (pb sn gn : Nat) (b : Bx) (V W : World) : Prop := V.grownBy W (some pb) ∧ ∃ v5 v6, Bk W pb 29 #[.int .i64 b.host, .int .i64 b.round, .int .u64 b.head, .int .i64 b.sent, .int .i64 b.wait, v5, v6] ∧ VAs pb sn b.asked v5 W ∧ VGo pb gn b.got v6 W
theorem IBx.ext {pb sn gn : Nat} {b : Bx} {V W W' : World} (h : IBx pb sn gn b V W) (hE : Ext W W') : IBx pb sn gn b V W' := by
  obtain ⟨hg, v5, v6, h1, h2, h3⟩ := h
  have hg2 : W.grownBy W' (some pb) := ⟨hE.os, hE.tape, hE.output, hE.size, fun k hk _ => hE.block k hk⟩
  exact ⟨hg.trans hg2, v5, v6, h1.ext hE, h2.by hg2, h3.by hg2⟩
theorem IBx.set5 {pb sn gn : Nat} {b : Bx} {V W : World} (h : IBx pb sn gn b V W) {u : Value} (hu : VAs pb sn b.asked u W) : IBx pb sn gn b V (W.setCell ⟨pb, 5, none⟩ u) := by
  obtain ⟨hg, v5, v6, h1, h2, h3⟩ := h
  have hg2 : W.grownBy (W.setCell ⟨pb, 5, none⟩ u) (some pb) := ⟨rfl, rfl, rfl, (KeepsOthers.setCell W _ _).size, fun k hk hkb => heap_setCell_other W ⟨pb, 5, none⟩ k u (fun e => hkb (by rw [e]))⟩
  exact ⟨hg.trans hg2, u, v6, h1.set 5 u, hu.by hg2, h3.by hg2⟩
theorem IBx.set6 {pb sn gn : Nat} {b : Bx} {V W : World} (h : IBx pb sn gn b V W) {u : Value} (hu : VGo pb gn b.got u W) : IBx pb sn gn b V (W.setCell ⟨pb, 6, none⟩ u) := by
  obtain ⟨hg, v5, v6, h1, h2, h3⟩ := h
  have hg2 : W.grownBy (W.setCell ⟨pb, 6, none⟩ u) (some pb) := ⟨rfl, rfl, rfl, (KeepsOthers.setCell W _ _).size, fun k hk hkb => heap_setCell_other W ⟨pb, 6, none⟩ k u (fun e => hkb (by rw [e]))⟩
  exact ⟨hg.trans hg2, v5, u, h1.set 6 u, h2.by hg2, hu.by hg2⟩
def RV (B pb n m : Nat) (xs : List Int) (ys : List Rp) : Rel (StB B pb n m xs ys) := ⟨fun v W => VAs pb n xs v W, fun v W W' h hS => h.by hS.1⟩
def RG (B pb n m : Nat) (xs : List Int) (ys : List Rp) : Rel (StB B pb n m xs ys) := ⟨fun v W => VGo pb m ys v W, fun v W W' h hS => h.by hS.1⟩
def RFV (B pb n m : Nat) (xs : List Int) (ys : List Rp) (hp : pb < B) : Rel (StB B pb n m xs ys) := ⟨fun v W => FAs B n xs v W, fun v W W' h hS => h.by hp hS.1⟩
def RFG (B pb n m : Nat) (xs : List Int) (ys : List Rp) (hp : pb < B) : Rel (StB B pb n m xs ys) := ⟨fun v W => FGo B m ys v W, fun v W W' h hS => h.by hp hS.1⟩
def RCA (B pb n m : Nat) (xs : List Int) (ys : List Rp) : Rel (StB B pb n m xs ys) := ⟨fun _ W => CAs B pb n xs W, fun _ W W' h hS => hS.2.1 h⟩
def RCG (B pb n m : Nat) (xs : List Int) (ys : List Rp) : Rel (StB B pb n m xs ys) := ⟨fun _ W => CGo B pb m ys W, fun _ W W' h hS => hS.2.2 h⟩

set_option maxHeartbeats 8000000 in
theorem icopied_any (b : Bx) (sa : Option Addr) (sn sc : Nat) (ga : Option Addr) (gn gc : Nat) (w : World) (hb : BxF w b sa sn sc ga gn gc) (hsn : sn ≤ 1000) (hgn : gn ≤ 1000) :
    Calls Tryz.prog 23 #[.agg #[.int .i64 b.host, .int .i64 b.round, .int .u64 b.head, .int .i64 b.sent, .int .i64 b.wait, .slice sa sn sc, .slice ga gn gc]] w fun e w' => ∃ a5 c5 a6 c6, e = .returned (.agg #[.int .i64 b.host, .int .i64 b.round, .int .u64 b.head, .int .i64 b.sent, .int .i64 b.wait, .slice a5 sn c5, .slice a6 gn c6]) ∧ Sl .i64 w' a5 sn c5 b.asked ∧ Frsh w.heap.size a5 sn ∧ Rw w' a6 gn c6 b.got ∧ Frsh w.heap.size a6 gn ∧ Headed a6 c6 ∧ Ext w w' := by
  have hE : Ext w ((w.alloc (.cells #[.int .i64 b.host, .int .i64 b.round, .int .u64 b.head, .int .i64 b.sent, .int .i64 b.wait, .slice sa sn sc, .slice ga gn gc] 29)).alloc (.cells #[.int .i64 0, .int .i64 0, .int .u64 0, .int .i64 0, .int .i64 0, .slice none 0 0, .slice none 0 0] 29)) := ((Ext.refl w).alloc _).alloc _
  have hP : Bk ((w.alloc (.cells #[.int .i64 b.host, .int .i64 b.round, .int .u64 b.head, .int .i64 b.sent, .int .i64 b.wait, .slice sa sn sc, .slice ga gn gc] 29)).alloc (.cells #[.int .i64 0, .int .i64 0, .int .u64 0, .int .i64 0, .int .i64 0, .slice none 0 0, .slice none 0 0] 29)) w.heap.size 29 #[.int .i64 b.host, .int .i64 b.round, .int .u64 b.head, .int .i64 b.sent, .int .i64 b.wait, .slice sa sn sc, .slice ga gn gc] := (Bk.new w 29 #[.int .i64 b.host, .int .i64 b.round, .int .u64 b.head, .int .i64 b.sent, .int .i64 b.wait, .slice sa sn sc, .slice ga gn gc]).ext ((Ext.refl _).alloc _)
  have hR := Bk.new (w.alloc (.cells #[.int .i64 b.host, .int .i64 b.round, .int .u64 b.head, .int .i64 b.sent, .int .i64 b.wait, .slice sa sn sc, .slice ga gn gc] 29)) 29 #[.int .i64 0, .int .i64 0, .int .u64 0, .int .i64 0, .int .i64 0, .slice none 0 0, .slice none 0 0]
  rw [World.size_alloc] at hR
  have hVs : ((w.alloc (.cells #[.int .i64 b.host, .int .i64 b.round, .int .u64 b.head, .int .i64 b.sent, .int .i64 b.wait, .slice sa sn sc, .slice ga gn gc] 29)).alloc (.cells #[.int .i64 0, .int .i64 0, .int .u64 0, .int .i64 0, .int .i64 0, .slice none 0 0, .slice none 0 0] 29)).heap.size = w.heap.size + 2 := by simp
  go_enter Tryz.func23, Tryz.ntmps23
  go_upto_region 1 with fail
  generalize (w.alloc (.cells #[.int .i64 b.host, .int .i64 b.round, .int .u64 b.head, .int .i64 b.sent, .int .i64 b.wait, .slice sa sn sc, .slice ga gn gc] 29)).alloc (.cells #[.int .i64 0, .int .i64 0, .int .u64 0, .int .i64 0, .int .i64 0, .slice none 0 0, .slice none 0 0] 29) = V at *
  obtain ⟨rb, hrb⟩ : ∃ rb, w.heap.size + 1 = rb := ⟨_, rfl⟩
  obtain ⟨pb, hpb⟩ : ∃ pb, w.heap.size = pb := ⟨_, rfl⟩
  obtain ⟨B, hB⟩ : ∃ B, V.heap.size = B := ⟨_, rfl⟩
  rw [hrb] at hR ⊢
  have hws : w.heap.size ≤ pb ∧ w.heap.size ≤ rb ∧ w.heap.size ≤ B ∧ pb < B ∧ rb < B ∧ pb ≠ rb := by omega
  rw [hpb] at hP ⊢
  clear hrb hVs
  obtain ⟨hw1, hw2, hw3, hpB, hrB, hpr⟩ := hws
  have hA0 : Aprt pb sa sn := fun b' off ha hn => by
    have hs := hb.sl
    obtain ⟨x, hx⟩ := hs.not_row ha hn
    have := lt_of_cell hx
    simp only at this
    omega
  have hG0 : Aprt pb ga gn := fun b' off ha hn => by have := hb.rw.lt ha hn; omega
  have hI0 : IBx pb sn gn b V V.drew := ⟨⟨rfl, rfl, rfl, Nat.le_refl _, fun k hk _ => rfl⟩, _, _, hP, ⟨_, _, rfl, (hb.sl.ext hE).ext ((Ext.refl V).drew), hA0⟩, ⟨_, _, rfl, (hb.rw.ext hE).ext ((Ext.refl V).drew), hG0⟩⟩
  subst hB
  refine region_rely (S := StB V.heap.size pb sn gn b.asked b.got) (fun W' => IBx pb sn gn b V W') [some 3, some 4, some 5, some 6, some 7, some 8, some 9, none, some 10, none] [[], [0], [1], [], [3], [4], [], [2, 6], [], [5, 8]] [[], [], [], [], [], [], [], [], [], []] [.one (.pointer (some ⟨pb, 5, none⟩)), RV V.heap.size pb sn gn b.asked b.got, RFV V.heap.size pb sn gn b.asked b.got hpB, .one (.pointer (some ⟨pb, 6, none⟩)), RG V.heap.size pb sn gn b.asked b.got, RFG V.heap.size pb sn gn b.asked b.got hpB, .one (.pointer (some ⟨pb, 5, none⟩)), RCA V.heap.size pb sn gn b.asked b.got, .one (.pointer (some ⟨pb, 6, none⟩)), RCG V.heap.size pb sn gn b.asked b.got] (by kernel_rfl) (by kernel_rfl) hI0 ?_ ?_
  · refine stepsR_cons ?_ ?_
    · intro vs W' hl hI hd ho
      refine hold ?_
      obtain ⟨x0, x1, x2, x3, x4, x5, x6, x7, x8, x9, rfl⟩ := lenlit10 hl; clear hl
      refine held ?_
      simp only [putAll, Act.put, List.setIfInBounds_toArray, List.set_cons_succ, List.set_cons_zero]
      go_wp2_with fail
      exact rely_done _ rfl rfl (StB.ext (Ext.refl _) hpB) hI
    refine stepsR_cons ?_ ?_
    · intro vs W' hl hI hd ho
      refine hold ?_
      obtain ⟨x0, x1, x2, x3, x4, x5, x6, x7, x8, x9, rfl⟩ := lenlit10 hl; clear hl
      simp only [factsR, atR, List.getElem?_cons_succ, List.getElem?_cons_zero, Rel.one, Rel.blk, RV, RG, RFV, RFG, RCA, RCG] at hd
      obtain ⟨rfl, -⟩ := hd
      refine held ?_
      simp only [putAll, Act.put, List.setIfInBounds_toArray, List.set_cons_succ, List.set_cons_zero]
      have hI2 := hI
      obtain ⟨hIg, v5, v6, hBk, hv5, hv6⟩ := hI2
      obtain ⟨a1, c1, rfl, hs1, hp1⟩ := hv5
      have p5 := hBk.c 5 _ rfl
      go_wp2_with fail
      exact rely_done _ rfl ⟨_, _, rfl, hs1, hp1⟩ (StB.ext (Ext.refl _) hpB) hI
    refine stepsR_cons ?_ ?_
    · intro vs W' hl hI hd ho
      refine hold ?_
      obtain ⟨x0, x1, x2, x3, x4, x5, x6, x7, x8, x9, rfl⟩ := lenlit10 hl; clear hl
      simp only [factsR, atR, List.getElem?_cons_succ, List.getElem?_cons_zero, Rel.one, Rel.blk, RV, RG, RFV, RFG, RCA, RCG] at hd
      obtain ⟨⟨a1, c1, rfl, hs1, hp1⟩, -⟩ := hd
      refine held ?_
      simp only [putAll, Act.put, List.setIfInBounds_toArray, List.set_cons_succ, List.set_cons_zero]
      go_wp2_with fail
      refine (cloneI_any a1 sn c1 b.asked W' hs1 hsn).mono ?_
      rintro e w4 ⟨a', c', rfl, ho, hx⟩
      have hBs := hI.1.size
      go_wp2_with fail
      exact rely_done _ rfl ⟨_, _, rfl, ho.sl hb.sl.wf, ho.frsh.mono hBs⟩ (StB.ext hx hpB) (hI.ext hx)
    refine stepsR_cons ?_ ?_
    · intro vs W' hl hI hd ho
      refine hold ?_
      obtain ⟨x0, x1, x2, x3, x4, x5, x6, x7, x8, x9, rfl⟩ := lenlit10 hl; clear hl
      refine held ?_
      simp only [putAll, Act.put, List.setIfInBounds_toArray, List.set_cons_succ, List.set_cons_zero]
      go_wp2_with fail
      exact rely_done _ rfl rfl (StB.ext (Ext.refl _) hpB) hI
    refine stepsR_cons ?_ ?_
    · intro vs W' hl hI hd ho
      refine hold ?_
      obtain ⟨x0, x1, x2, x3, x4, x5, x6, x7, x8, x9, rfl⟩ := lenlit10 hl; clear hl
      simp only [factsR, atR, List.getElem?_cons_succ, List.getElem?_cons_zero, Rel.one, Rel.blk, RV, RG, RFV, RFG, RCA, RCG] at hd
      obtain ⟨rfl, -⟩ := hd
      refine held ?_
      simp only [putAll, Act.put, List.setIfInBounds_toArray, List.set_cons_succ, List.set_cons_zero]
      have hI2 := hI
      obtain ⟨hIg, v5, v6, hBk, hv5, hv6⟩ := hI2
      obtain ⟨a4, c4, rfl, hr4, hp4⟩ := hv6
      have p6 := hBk.c 6 _ rfl
      go_wp2_with fail
      exact rely_done _ rfl ⟨_, _, rfl, hr4, hp4⟩ (StB.ext (Ext.refl _) hpB) hI
    refine stepsR_cons ?_ ?_
    · intro vs W' hl hI hd ho
      refine hold ?_
      obtain ⟨x0, x1, x2, x3, x4, x5, x6, x7, x8, x9, rfl⟩ := lenlit10 hl; clear hl
      simp only [factsR, atR, List.getElem?_cons_succ, List.getElem?_cons_zero, Rel.one, Rel.blk, RV, RG, RFV, RFG, RCA, RCG] at hd
      obtain ⟨⟨a4, c4, rfl, hr4, hp4⟩, -⟩ := hd
      refine held ?_
      simp only [putAll, Act.put, List.setIfInBounds_toArray, List.set_cons_succ, List.set_cons_zero]
      go_wp2_with fail
      refine (cloneR_any a4 gn c4 b.got W' hr4 hgn).mono ?_
      rintro e w4 ⟨a', c', rfl, ho, hx⟩
      have hBs := hI.1.size
      go_wp2_with fail
      exact rely_done _ rfl ⟨_, _, rfl, ho.rw (by omega) hb.rw.wf, ho.frsh.1.mono hBs, ho.frsh.2⟩ (StB.ext hx hpB) (hI.ext hx)
    refine stepsR_cons ?_ ?_
    · intro vs W' hl hI hd ho
      refine hold ?_
      obtain ⟨x0, x1, x2, x3, x4, x5, x6, x7, x8, x9, rfl⟩ := lenlit10 hl; clear hl
      refine held ?_
      simp only [putAll, Act.put, List.setIfInBounds_toArray, List.set_cons_succ, List.set_cons_zero]
      go_wp2_with fail
      exact rely_done _ rfl rfl (StB.ext (Ext.refl _) hpB) hI
    refine stepsR_cons ?_ ?_
    · intro vs W' hl hI hd ho
      refine hold ?_
      obtain ⟨x0, x1, x2, x3, x4, x5, x6, x7, x8, x9, rfl⟩ := lenlit10 hl; clear hl
      simp only [factsR, atR, List.getElem?_cons_succ, List.getElem?_cons_zero, Rel.one, Rel.blk, RV, RG, RFV, RFG, RCA, RCG] at hd
      obtain ⟨⟨a2, c2, rfl, hs2, hp2⟩, rfl, -⟩ := hd
      refine held ?_
      simp only [putAll, Act.put, List.setIfInBounds_toArray, List.set_cons_succ, List.set_cons_zero]
      have hI2 := hI
      obtain ⟨hIg, v5, v6, hBk, hv5, hv6⟩ := hI2
      have p5 := hBk.c 5 _ rfl
      have f5 := hBk.free 5
      go_wp2_with fail
      have hF : FAs V.heap.size sn b.asked (.slice a2 sn c2) W' := ⟨_, _, rfl, hs2, hp2⟩
      have hS : StB V.heap.size pb sn gn b.asked b.got W' (W'.setCell ⟨pb, 5, none⟩ (.slice a2 sn c2)) := StB.set hpB 5 _ (fun _ => ⟨hF, by rw [p5]; rfl⟩) (fun h => by omega)
      exact rely_done undef rfl ⟨_, World.cell?_setCell_same' _ _ _ (by rw [p5]; rfl), hF.by hpB hS.1⟩ hS (hI.set5 (hF.ap hpB))
    refine stepsR_cons ?_ ?_
    · intro vs W' hl hI hd ho
      refine hold ?_
      obtain ⟨x0, x1, x2, x3, x4, x5, x6, x7, x8, x9, rfl⟩ := lenlit10 hl; clear hl
      refine held ?_
      simp only [putAll, Act.put, List.setIfInBounds_toArray, List.set_cons_succ, List.set_cons_zero]
      go_wp2_with fail
      exact rely_done _ rfl rfl (StB.ext (Ext.refl _) hpB) hI
    refine stepsR_cons ?_ ?_
    · intro vs W' hl hI hd ho
      refine hold ?_
      obtain ⟨x0, x1, x2, x3, x4, x5, x6, x7, x8, x9, rfl⟩ := lenlit10 hl; clear hl
      simp only [factsR, atR, List.getElem?_cons_succ, List.getElem?_cons_zero, Rel.one, Rel.blk, RV, RG, RFV, RFG, RCA, RCG] at hd
      obtain ⟨⟨a5, c5, rfl, hr5, hf5, hh5⟩, rfl, -⟩ := hd
      refine held ?_
      simp only [putAll, Act.put, List.setIfInBounds_toArray, List.set_cons_succ, List.set_cons_zero]
      have hI2 := hI
      obtain ⟨hIg, v5, v6, hBk, hv5, hv6⟩ := hI2
      have p6 := hBk.c 6 _ rfl
      have f6 := hBk.free 6
      go_wp2_with fail
      have hF : FGo V.heap.size gn b.got (.slice a5 gn c5) W' := ⟨_, _, rfl, hr5, hf5, hh5⟩
      have hS : StB V.heap.size pb sn gn b.asked b.got W' (W'.setCell ⟨pb, 6, none⟩ (.slice a5 gn c5)) := StB.set hpB 6 _ (fun h => by omega) (fun _ => ⟨hF, by rw [p6]; rfl⟩)
      exact rely_done undef rfl ⟨_, World.cell?_setCell_same' _ _ _ (by rw [p6]; rfl), hF.by hpB hS.1⟩ hS (hI.set6 (hF.ap hpB))
    exact trivial
  · intro vs W' hl hI hd
    obtain ⟨x0, x1, x2, x3, x4, x5, x6, x7, x8, x9, rfl⟩ := lenlit10 hl; clear hl
    simp only [List.length_cons, List.length_nil, List.range, List.range.loop, Nat.zero_add, Nat.reduceAdd, factsR, atR, List.getElem?_cons_succ, List.getElem?_cons_zero, Rel.one, Rel.blk, RV, RG, RFV, RFG, RCA, RCG] at hd
    obtain ⟨rfl, ⟨a1, c1, rfl, hs1, hp1⟩, ⟨a2, c2, rfl, hs2, hp2⟩, rfl, ⟨a4, c4, rfl, hr4, hp4⟩, ⟨a5, c5, rfl, hr5, hf5, hh5⟩, rfl, hCA, rfl, hCG, -⟩ := hd
    simp only [putAll, Act.put, List.setIfInBounds_toArray, List.set_cons_succ, List.set_cons_zero]
    obtain ⟨hIg, v5, v6, hBk, -, -⟩ := hI
    obtain ⟨v5', k5, a5, c5, rfl, hs5, hf5⟩ := hCA
    obtain ⟨v6', k6, a6, c6, rfl, hr6, hf6, hh6⟩ := hCG
    have p5 := hBk.c 5 _ rfl
    have p6 := hBk.c 6 _ rfl
    obtain rfl : v5 = .slice a5 sn c5 := Option.some.inj (p5.symm.trans k5)
    obtain rfl : v6 = .slice a6 gn c6 := Option.some.inj (p6.symm.trans k6)
    clear k5 k6
    have hRB : Bk W' rb 29 #[.int .i64 0, .int .i64 0, .int .u64 0, .int .i64 0, .int .i64 0, .slice none 0 0, .slice none 0 0] := (hIg.block rb hrB (fun e => hpr (Option.some.inj e).symm)).trans hR
    have hEw : Ext w W' := ⟨hIg.os.trans hE.os, hIg.tape.trans hE.tape, hIg.output.trans hE.output, Nat.le_trans hE.size hIg.size, fun k hk => (hIg.block k (Nat.lt_of_lt_of_le hk hE.size) (fun e => by have := Option.some.inj e; omega)).trans (hE.block k hk)⟩
    have p0 := hBk.c 0 _ rfl
    have p1 := hBk.c 1 _ rfl
    have p2 := hBk.c 2 _ rfl
    have p3 := hBk.c 3 _ rfl
    have p4 := hBk.c 4 _ rfl
    have z0 := hRB.c 0 _ rfl
    have z1 := hRB.c 1 _ rfl
    have z2 := hRB.c 2 _ rfl
    have z3 := hRB.c 3 _ rfl
    have z4 := hRB.c 4 _ rfl
    have z5 := hRB.c 5 _ rfl
    have z6 := hRB.c 6 _ rfl
    have fz := hRB.free
    go_wp2_with fail
    exact bodyPost_ret (res_copied _ rb _ _ _ _ _ _ _ _ (by rfl) (Bk.set7 hRB _ _ _ _ _ _ _)) rfl ⟨a5, c5, a6, c6, rfl, hs5.set7 (hf5.ap hrB) _ _ _ _ _ _ _, hf5.mono hw3, hr6.set7 (hf6.ap hrB) _ _ _ _ _ _ _, hf6.mono hw3, hh6, hEw.set7 hw2 _ _ _ _ _ _ _⟩
end Go.Proofs.YtdmfdimhjemngaaGreatDoor
