
import Derived.Test.YtacicanjmleikaaGreatDoorTX
import Derived.Maps.Own
/-
  cross.Forks of two right heads of one office, walked. Written by wip/gen_ty.py.
-/
namespace Go.Proofs.YtacicanjmleikaaGreatDoor
open Go.RowKit Go.Sort Go.Shelf
set_option linter.unusedSimpArgs false
set_option linter.unusedVariables false
set_option maxRecDepth 100000

/-- What Forks answers of two right heads with roots a and b and sizes m ≤ n. -/
def fkV (a b : Int) (m n : Nat) (ps : List Int) : Bool :=
  if m = n then decide (ps.length = 0) && decide (a ≠ b) else if ps.length = 0 then false else if nth ps 0 = a then false else exV (nth ps 0) b m n (ps.drop 1)
set_option maxHeartbeats 8000000 in
theorem forks_yes (pub : Int) (hp : pub ≠ 1) (hm : memB pub = true) (h g : Hd) (hk : h.Ok) (gk : g.Ok) (hr : rightH pub h = true) (gr : rightH pub g = true) (ho : h.o = g.o)
    (m n : Nat) (hs : h.s = m) (gs : g.s = n) (hmn : m ≤ n) (pa : Option Addr) (pn pc : Nat) (ps : List Int) (w : World) (hsl : Sl .u64 w pa pn pc ps) (hpn : pn ≤ 21) (ht : TB w) :
    Calls Tryz.prog 18 #[.int .i64 pub, hdV h, hdV g, .slice pa pn pc] w fun e w' => e = .returned (.tuple #[.bool (fkV h.r g.r m n ps), .int .i64 0]) ∧ Ext w w' := by
  have H1 := Lib.hid (fun (W : World) (hx : Ext w W) => oright_any pub hp hm h hk W (ht.ext hx))
  have H2 := Lib.hid (fun (W : World) (hx : Ext w W) => oright_any pub hp hm g gk W (ht.ext hx))
  rw [hr] at H1
  rw [gr] at H2
  have HSL := Lib.hid hsl
  have HTB := Lib.hid ht
  have bd := hsl.bd
  have hlen := hsl.hlen
  have hk3 := hk.s
  have gk3 := gk.s
  have hm1 : 1 ≤ m := by omega
  have hn1 : n ≤ 4096 := by omega
  have HRB := Lib.hid gk.r
  unfold hdV at H1 H2 ⊢
  have hA := Bk.new w 34 #[.int .i64 h.o, .int .i64 h.s, .int .u64 h.r, .int .i64 h.C, .int .i64 h.S]
  have hx : Ext w (w.alloc (.cells #[.int .i64 h.o, .int .i64 h.s, .int .u64 h.r, .int .i64 h.C, .int .i64 h.S] 34)) := (Ext.refl w).alloc _
  have hB := Bk.new (w.alloc (.cells #[.int .i64 h.o, .int .i64 h.s, .int .u64 h.r, .int .i64 h.C, .int .i64 h.S] 34)) 34 #[.int .i64 g.o, .int .i64 g.s, .int .u64 g.r, .int .i64 g.C, .int .i64 g.S]
  rw [show (w.alloc (.cells #[.int .i64 h.o, .int .i64 h.s, .int .u64 h.r, .int .i64 h.C, .int .i64 h.S] 34)).heap.size = w.heap.size + 1 from Array.size_push _] at hB
  replace hA := hA.ext ((Ext.refl _).alloc (.cells #[.int .i64 g.o, .int .i64 g.s, .int .u64 g.r, .int .i64 g.C, .int .i64 g.S] 34))
  replace hx := hx.alloc (.cells #[.int .i64 g.o, .int .i64 g.s, .int .u64 g.r, .int .i64 g.C, .int .i64 g.S] 34)
  have HEQ := Lib.hid (And.intro ho (And.intro hs gs))
  have g4 : ¬ (g.s < h.s) := by omega
  have g6 : (h.o == g.o) = true := by simp [ho]
  clear hsl ht hk gk hr gr hp hm hs gs ho hk3 gk3
  go_enter Tryz.func18, Tryz.ntmps18
  go_upto_region 1 with fail
  generalize (w.alloc (.cells #[.int .i64 h.o, .int .i64 h.s, .int .u64 h.r, .int .i64 h.C, .int .i64 h.S] 34)).alloc (.cells #[.int .i64 g.o, .int .i64 g.s, .int .u64 g.r, .int .i64 g.C, .int .i64 g.S] 34) = V at *
  obtain ⟨b5, hb5⟩ : ∃ b, w.heap.size = b := ⟨_, rfl⟩
  rw [hb5] at hA hB ⊢
  obtain ⟨b6, hb6⟩ : ∃ b, b5 + 1 = b := ⟨_, rfl⟩
  rw [hb6] at hB ⊢
  clear hb5 hb6
  have a0 := hA.c 0 _ rfl
  have b0 := hB.c 0 _ rfl
  have a1 := hA.c 1 _ rfl
  have b1 := hB.c 1 _ rfl
  have a2 := hA.c 2 _ rfl
  have b2 := hB.c 2 _ rfl
  have a3 := hA.c 3 _ rfl
  have b3 := hB.c 3 _ rfl
  have a4 := hA.c 4 _ rfl
  have b4 := hB.c 4 _ rfl
  go_wp2_with (go_at_call 48; refine (H1.out _ hx).mono ?_; rintro e9 w1 ⟨rfl, hx1⟩; refine hold ?_)
  refine held ?_
  replace hx := hx.trans hx1
  replace hA := hA.ext hx1
  replace hB := hB.ext hx1
  clear hx1 H1
  clear a0 b0 a1 b1 a2 b2 a3 b3 a4 b4
  have a0 := hA.c 0 _ rfl
  have b0 := hB.c 0 _ rfl
  have a1 := hA.c 1 _ rfl
  have b1 := hB.c 1 _ rfl
  have a2 := hA.c 2 _ rfl
  have b2 := hB.c 2 _ rfl
  have a3 := hA.c 3 _ rfl
  have b3 := hB.c 3 _ rfl
  have a4 := hA.c 4 _ rfl
  have b4 := hB.c 4 _ rfl
  go_wp2_with (go_at_call 48; refine (H2.out _ hx).mono ?_; rintro e9 w2 ⟨rfl, hx1⟩; refine hold ?_)
  refine held ?_
  replace hx := hx.trans hx1
  replace hA := hA.ext hx1
  replace hB := hB.ext hx1
  clear hx1 H2
  clear a0 b0 a1 b1 a2 b2 a3 b3 a4 b4
  have a0 := hA.c 0 _ rfl
  have b0 := hB.c 0 _ rfl
  have a1 := hA.c 1 _ rfl
  have b1 := hB.c 1 _ rfl
  have a2 := hA.c 2 _ rfl
  have b2 := hB.c 2 _ rfl
  have a3 := hA.c 3 _ rfl
  have b3 := hB.c 3 _ rfl
  have a4 := hA.c 4 _ rfl
  have b4 := hB.c 4 _ rfl
  have g1 : ¬ ((21 : Int) < (pn : Int)) := by omega
  have g2 : decide ((21 : Int) < (pn : Int)) = false := decide_eq_false g1
  have g3 : ¬ (21 < pn) := by omega
  have g5 : decide (g.s < h.s) = false := decide_eq_false (by omega)
  go_upto_region 7 with fail
  exact absurd HEQ.out.1 (by assumption)
  clear g1 g2 g3 g4 g5 g6
  by_cases heq : m = n
  · have k1 : (h.s == g.s) = true := by simp [HEQ.out.2.1, HEQ.out.2.2, heq]
    by_cases h0 : pn = 0
    · subst h0
      go_wp2_with fail
      go_ret2
      refine ⟨?_, hx⟩
      unfold fkV
      rw [if_pos heq, hlen]
      by_cases he : h.r = g.r <;> simp [he]
    · have k3 : ((pn : Int) == 0) = false := by simp; omega
      have k4 : (pn == 0) = false := by simp; omega
      go_wp2_with fail
      go_ret2
      refine ⟨?_, hx⟩
      unfold fkV
      rw [if_pos heq, hlen]
      simp [h0]
  · have k1 : (h.s == g.s) = false := by rw [HEQ.out.2.1, HEQ.out.2.2]; simp; omega
    have k2 : ¬ (h.s = g.s) := by rw [HEQ.out.2.1, HEQ.out.2.2]; omega
    by_cases h0 : pn = 0
    · subst h0
      go_upto_region 9 with fail
      refine region_ext (by kernel_rfl) (by kernel_rfl) ?_
      repeat (go_big_quiet_step (fail))
      refine wpQuiet_nil ?_
      intro w3 hx1
      clear a0 a1 a2 a3 a4 b0 b1 b2 b3 b4
      go_wp2_with fail
      go_ret2
      refine ⟨?_, hx.trans hx1⟩
      unfold fkV
      rw [if_neg heq, hlen]
      rfl
    · have k3 : ((pn : Int) == 0) = false := by simp; omega
      have k4 : (pn == 0) = false := by simp; omega
      obtain ⟨x1, o1, rfl, hc1⟩ := (HSL.out.ext hx).at (by omega)
      have d0 := hc1 0 (by omega)
      have hwf := HSL.out.wfAt (i := 0) (by omega)
      have HVR : Hid (0 ≤ nth ps 0 ∧ nth ps 0 ≤ 18446744073709551615) := Lib.hid (by simpa [Lit.wf, IntKind.min, IntKind.max, IntKind.bits, IntKind.signed] using hwf)
      clear hwf hc1
      have HFK : Hid (fkV h.r g.r m n ps = if nth ps 0 = h.r then false else exV (nth ps 0) g.r m n (ps.drop 1)) := Lib.hid (by unfold fkV; rw [if_neg heq, hlen, if_neg h0])
      obtain ⟨z, hz⟩ : ∃ z, nth ps 0 = z := ⟨_, rfl⟩
      rw [hz] at HFK HVR d0
      clear hz
      rw [Nat.add_zero] at d0
      have k9 : 0 < pn := by omega
      have k10 : (0 : Int) < (pn : Int) := by omega
      go_upto_region 9 with fail
      by_cases hzr : z = h.r
      · have k5 : (z == h.r) = true := by simp [hzr]
        go_upto_region 9 with fail
        have hg := @grow_cell
        have hl0 := hA.lt
        have hl1 := hB.lt
        have hbx := lt_of_cell d0
        simp only at hbx
        refine region_ext (by kernel_rfl) (by kernel_rfl) ?_
        repeat (go_big_quiet_step (fail))
        refine wpQuiet_nil ?_
        intro w3 hx1
        replace d0 := hx1.cell d0
        replace hx := hx.trans hx1
        replace hA := hA.ext hx1
        replace hB := hB.ext hx1
        clear hx1 hg hl0 hl1 hbx
        clear a0 b0 a1 b1 a2 b2 a3 b3 a4 b4
        have a0 := hA.c 0 _ rfl
        have b0 := hB.c 0 _ rfl
        have a1 := hA.c 1 _ rfl
        have b1 := hB.c 1 _ rfl
        have a2 := hA.c 2 _ rfl
        have b2 := hB.c 2 _ rfl
        have a3 := hA.c 3 _ rfl
        have b3 := hB.c 3 _ rfl
        have a4 := hA.c 4 _ rfl
        have b4 := hB.c 4 _ rfl
        go_wp2_with fail
        go_ret2
        refine ⟨?_, hx⟩
        rw [HFK.out, if_pos hzr]
        rfl
      · have k5 : (z == h.r) = false := by simp [hzr]
        have HZR := Lib.hid hzr
        have HX := Lib.hid (fun (W : World) (hx9 : Ext w W) => textended_any z g.r HVR.out HRB.out m n hm1 hmn hn1 _ _ _ _ W ((HSL.out.ext hx9).from (m := 1) (by omega)) (by omega) (HTB.out.ext hx9))
        rw [← HEQ.out.2.1, ← HEQ.out.2.2] at HX
        generalize exV z g.r m n (ps.drop 1) = EV at HX HFK
        have k7 : ¬ ((pn : Int) < 1) := by omega
        have k8 : ¬ (pn < 1) := by omega
        go_upto_region 9 with fail
        have hg := @grow_cell
        have hl0 := hA.lt
        have hl1 := hB.lt
        have hbx := lt_of_cell d0
        simp only at hbx
        refine region_ext (by kernel_rfl) (by kernel_rfl) ?_
        repeat (go_big_quiet_step (fail))
        refine wpQuiet_nil ?_
        intro w3 hx1
        replace d0 := hx1.cell d0
        replace hx := hx.trans hx1
        replace hA := hA.ext hx1
        replace hB := hB.ext hx1
        clear hx1 hg hl0 hl1 hbx
        clear a0 b0 a1 b1 a2 b2 a3 b3 a4 b4
        have a0 := hA.c 0 _ rfl
        have b0 := hB.c 0 _ rfl
        have a1 := hA.c 1 _ rfl
        have b1 := hB.c 1 _ rfl
        have a2 := hA.c 2 _ rfl
        have b2 := hB.c 2 _ rfl
        have a3 := hA.c 3 _ rfl
        have b3 := hB.c 3 _ rfl
        have a4 := hA.c 4 _ rfl
        have b4 := hB.c 4 _ rfl
        by_cases hqc : pc = 1
        · rw [show subA (some ⟨x1, o1, none⟩) pc 1 = some ⟨x1, o1, none⟩ by simp [subA, hqc, Addr.add]] at HX
          rw [show pc - 1 = 0 by omega] at HX
          clear hzr
          go_upto_region 11 with fail
          have hg := @grow_cell
          have hl0 := hA.lt
          have hl1 := hB.lt
          have hbx := lt_of_cell d0
          simp only at hbx
          have HX2 := Lib.hid (fun d os => HX.out (grow (redrawn w3 d) os) (hx.trans (ext_grow w3 d os)))
          refine region_ext (by kernel_rfl) (by kernel_rfl) ?_
          repeat (go_big_quiet_step ((go_at_call 24; exact Calls.regrown_of (HX2.out _ _))))
          refine wpQuiet_nil ?_
          intro w4 hx1
          clear hg hl0 hl1 hbx d0 a0 a1 a2 a3 a4 b0 b1 b2 b3 b4
          go_wp2_with fail
          go_ret2
          refine ⟨?_, hx.trans hx1⟩
          rw [HFK.out, if_neg HZR.out]
          rfl
        · rw [show subA (some ⟨x1, o1, none⟩) pc 1 = some ⟨x1, o1 + 1, none⟩ by simp [subA, hqc, Addr.add]] at HX
          clear hzr
          go_upto_region 11 with fail
          have hg := @grow_cell
          have hl0 := hA.lt
          have hl1 := hB.lt
          have hbx := lt_of_cell d0
          simp only at hbx
          have HX2 := Lib.hid (fun d os => HX.out (grow (redrawn w3 d) os) (hx.trans (ext_grow w3 d os)))
          refine region_ext (by kernel_rfl) (by kernel_rfl) ?_
          repeat (go_big_quiet_step ((go_at_call 24; exact Calls.regrown_of (HX2.out _ _))))
          refine wpQuiet_nil ?_
          intro w4 hx1
          clear hg hl0 hl1 hbx d0 a0 a1 a2 a3 a4 b0 b1 b2 b3 b4
          go_wp2_with fail
          go_ret2
          refine ⟨?_, hx.trans hx1⟩
          rw [HFK.out, if_neg HZR.out]
          rfl
end Go.Proofs.YtacicanjmleikaaGreatDoor

/-
  A map of offices, as order.newArchive fills it: its block, looked up and stored into.
-/
namespace Go.Proofs.YtacicanjmleikaaGreatDoor
open Go.RowKit Go.Sort Go.Shelf Go.Maps
open Go.WideElems (Fit rd rg pl rd_val)
open Go.ChangeMaps Go.MapKept
set_option linter.unusedSimpArgs false
set_option linter.unusedVariables false
set_option maxRecDepth 100000

structure OfR where
  id : Int
  a : Option Addr
  n : Nat
  c : Nat
def ofV (o : OfR) : Value := .agg #[.int .i64 o.id, .slice o.a o.n o.c]
def OfR.enc (o : OfR) : List Value := [.int .i64 o.id, .slice o.a o.n o.c]
instance : Cel OfR where
  dflt := ⟨0, none, 0, 0⟩
  sz := 2
  enc := OfR.enc
  ok := fun o => (Lit.int .i64 o.id).wf = true
  len := fun _ => rfl
  pos := by decide
  one := by intro x v hv; simp [OfR.enc] at hv; rcases hv with rfl | rfl <;> rfl
theorem sz_of : Cel.sz OfR = 2 := rfl
def of0 : Value := .agg #[.int .i64 0, .slice none 0 0]
def mapE (os : List OfR) (j : Nat) : MapEntry := ⟨.int .i64 (nthR os j).id, ofV (nthR os j), j⟩
def mapA (os : List OfR) (k : Nat) : Array MapEntry := ((List.range k).map (mapE os)).toArray
theorem mapA_succ (os : List OfR) (k : Nat) : mapA os (k + 1) = (mapA os k).push (mapE os k) := by
  unfold mapA
  rw [List.range_succ, List.map_append]
  simp
theorem mapA_mem {os : List OfR} {k : Nat} {x : MapEntry} : x ∈ (mapA os k).toList ↔ ∃ j, j < k ∧ mapE os j = x := by
  unfold mapA
  simp
def idR (v : Value) : Option (DataW Unit × List MemPlace) := some (.lit (.bool true), [])
abbrev MT : TypeId := 93
theorem olaw : Keyed Tryz.prog 3 := int_keyed Tryz.underlying3
theorem ozero (w : World) : (zeroValue 24).run Tryz.prog w = .ok of0 w := by kernel_rfl
/-- The identities are numbers, no two of them alike. -/
def Apart (os : List OfR) (k : Nat) : Prop := ∀ j, j < k → (Lit.int .i64 (nthR os j).id).wf = true ∧ ∀ i, i < j → (nthR os i).id ≠ (nthR os j).id
theorem Apart.mono {os : List OfR} {k k' : Nat} (h : Apart os k) (hk : k' ≤ k) : Apart os k' := fun j hj => h j (by omega)
theorem mapA_fit {os : List OfR} : ∀ {k : Nat}, Apart os k → k ≤ maxLen → Fit Tryz.prog 3 idR (mapA os k) k
  | 0, _, _ => ⟨by simp [mapA], stamped_empty 0, by simp [mapA]⟩
  | k + 1, h, hk => by
    have F := mapA_fit (h.mono (Nat.le_succ k)) (by omega)
    refine ⟨by simp [mapA]; exact hk, ?_, ?_⟩
    · rw [mapA_succ]
      refine stamped_push F.stamped ?_
      intro x hx e
      obtain ⟨j, hj, rfl⟩ := mapA_mem.1 hx
      have := (h k (Nat.lt_succ_self k)).2 j hj
      simp only [mapE, Value.int.injEq, true_and] at e
      exact this e
    · intro x hx
      obtain ⟨j, hj, rfl⟩ := mapA_mem.1 hx
      exact ⟨_, WideElems.rd_mk (keyOf_int_mk Tryz.underlying3 (h j hj).1) rfl⟩
/-- Block b is the map of the first k offices. -/
def OMap (W : World) (b : Nat) (os : List OfR) (k : Nat) : Prop := W.heap[b]? = some (.map (mapA os k) k)
theorem OMap.lt {W : World} {b k : Nat} {os : List OfR} (h : OMap W b os k) : b < W.heap.size := (Array.getElem?_eq_some_iff.1 h).1
theorem OMap.ext {W W' : World} {b k : Nat} {os : List OfR} (h : OMap W b os k) (hx : Ext W W') : OMap W' b os k := (hx.block b h.lt).trans h
theorem OMap.look {W : World} {b k : Nat} {os : List OfR} (h : OMap W b os k) (ha : Apart os k) (hk : k ≤ maxLen) (c : Bool) {j : Nat} (hj : j < k) {id : Int} (e : (nthR os j).id = id) :
    (Instr.lookup MT (.map (some b)) (.int .i64 id) c).run Tryz.prog W = .ok (if c then .tuple #[ofV (nthR os j), .bool true] else ofV (nthR os j)) W := by
  subst e
  rcases fit_look c olaw Tryz.underlying93 (ozero W) h (mapA_fit ha hk) (keyOf_int_mk Tryz.underlying3 (ha j hj).1) with ⟨_, h2, _⟩ | ⟨e0, y, hm, hkey, hrun, _⟩
  · exact absurd rfl (h2 _ (mapA_mem.2 ⟨j, hj, rfl⟩))
  · obtain ⟨i, hi, rfl⟩ := mapA_mem.1 hm
    simp only [mapE, Value.int.injEq, true_and] at hkey
    obtain rfl : i = j := by
      rcases Nat.lt_trichotomy i j with hlt | heq | hlt
      · exact absurd hkey ((ha j hj).2 i hlt)
      · exact heq
      · exact absurd hkey.symm ((ha i hi).2 j hlt)
    exact hrun
theorem OMap.miss {W : World} {b k : Nat} {os : List OfR} (h : OMap W b os k) (ha : Apart os k) (hk : k ≤ maxLen) (c : Bool) {id : Int} (hw : (Lit.int .i64 id).wf = true) (e : ∀ j, j < k → (nthR os j).id ≠ id) :
    (Instr.lookup MT (.map (some b)) (.int .i64 id) c).run Tryz.prog W = .ok (if c then .tuple #[of0, .bool false] else of0) W := by
  rcases fit_look c olaw Tryz.underlying93 (ozero W) h (mapA_fit ha hk) (keyOf_int_mk Tryz.underlying3 hw) with ⟨hrun, _, _⟩ | ⟨e0, y, hm, hkey, hrun, _⟩
  · exact hrun
  · obtain ⟨i, hi, rfl⟩ := mapA_mem.1 hm
    simp only [mapE, Value.int.injEq, true_and] at hkey
    exact absurd hkey (e i hi)
/-- The map of k offices behind the making of a new entry. -/
def midA (os : List OfR) (k : Nat) : Array MapEntry := (mapA os k).push ⟨.int .i64 (nthR os k).id, of0, k⟩
theorem OMap.entry {W : World} {b k : Nat} {os : List OfR} (h : OMap W b os k) (ha : Apart os (k + 1)) (hk : k ≤ maxLen) :
    (Instr.mapEntry MT (.map (some b)) (.int .i64 (nthR os k).id)).run Tryz.prog W = .ok (.tuple #[of0, .int .i64 k]) (setBlock W b (.map (midA os k) (k + 1))) := by
  have F := mapA_fit (ha.mono (Nat.le_succ k)) hk
  have hkey := keyOf_int_mk (P := Tryz.prog) (k := 3) Tryz.underlying3 (ha k (Nat.lt_succ_self k)).1
  have ht : Tryz.prog.underlying MT = some (.map 3 24) := Tryz.underlying93
  have hb : W.heap[b]? = some (.map (mapA os k) k) := h
  rcases olaw.find W hkey (mapA os k).toList F.keys with ⟨h1, _⟩ | ⟨j, e0, _, h2, h3⟩
  · simp [Instr.mapEntry, run_underlying ht, MapKept.run_getObj_map hb, olaw.check W false hkey, h1, ozero W, MapKept.run_setObj_map _ hb, Result.andThen, setBlock, midA, goInt]
  · obtain ⟨i, hi, rfl⟩ := mapA_mem.1 (List.mem_of_getElem? h2)
    simp only [mapE, Value.int.injEq, true_and] at h3
    exact absurd h3 ((ha k (Nat.lt_succ_self k)).2 i hi)
theorem find_last {α : Type} (p : α → Bool) (a : α) : ∀ l : List α, (∀ x ∈ l, p x = false) → p a = true → (l ++ [a]).findIdx? p = some l.length
  | [], _, h => by simp [List.findIdx?_cons, h]
  | b :: r, h1, h2 => by
    rw [List.cons_append, List.findIdx?_cons, h1 b (by simp)]
    simp [find_last p a r (fun x hx => h1 x (by simp [hx])) h2]
theorem mod_last {α : Type} (f : α → α) (a : α) : ∀ l : List α, (l ++ [a]).modify l.length f = l ++ [f a]
  | [] => rfl
  | b :: r => by simp [List.modify_succ_cons, mod_last f a r]
theorem OMap.stored {W : World} {b k : Nat} {os : List OfR} (h : W.heap[b]? = some (.map (midA os k) (k + 1))) :
    (Instr.entryStore MT (.map (some b)) (.int .i64 k) (ofV (nthR os k))).run Tryz.prog W = .ok () (setBlock W b (.map (mapA os (k + 1)) (k + 1))) := by
  have hidx : (midA os k).findIdx? (fun e => (e.born : Int) == (k : Int)) = some k := by
    have e1 : (midA os k).findIdx? (fun e => (e.born : Int) == (k : Int)) = (midA os k).toList.findIdx? (fun e => (e.born : Int) == (k : Int)) := by cases midA os k; simp
    rw [e1]
    have e2 : (midA os k).toList = (List.range k).map (mapE os) ++ [⟨.int .i64 (nthR os k).id, of0, k⟩] := by simp [midA, mapA]
    rw [e2, find_last]
    · simp
    · intro x hx
      obtain ⟨j, hj, rfl⟩ := List.mem_map.1 hx
      rw [List.mem_range] at hj
      simp [mapE]
      omega
    · simp
  have hmod : (midA os k).modify k (fun e => { e with val := ofV (nthR os k) }) = mapA os (k + 1) := by
    apply Array.ext'
    rw [Array.toList_modify]
    have e2 : (midA os k).toList = (List.range k).map (mapE os) ++ [⟨.int .i64 (nthR os k).id, of0, k⟩] := by simp [midA, mapA]
    have e3 : ((List.range k).map (mapE os)).length = k := by simp
    rw [e2]
    have e4 := mod_last (fun e : MapEntry => { e with val := ofV (nthR os k) }) ⟨.int .i64 (nthR os k).id, of0, k⟩ ((List.range k).map (mapE os))
    rw [e3] at e4
    rw [e4, mapA_succ]
    simp [mapA, mapE]
  simp [Instr.entryStore, MapKept.run_getObj_map h, asInt, asIntOf, hidx, hmod, MapKept.run_setObj_map _ h, Result.andThen, setBlock]
theorem grownBy_setBlock {W : World} {b : Nat} {es : Array MapEntry} {c : Nat} (h : W.heap[b]? = some (.map es c)) (o : Obj) : W.grownBy (setBlock W b o) (some b) :=
  ⟨rfl, rfl, rfl, by simp [setBlock], fun i _ hi => heap_setBlock_other h _ (fun e => hi (by rw [e]))⟩
end Go.Proofs.YtacicanjmleikaaGreatDoor
