
import Derived.Test.YtacicanjmleikaaGreatDoorGr16
/- A part of the proof. -/
namespace Go.Proofs.YtacicanjmleikaaGreatDoor
open Go.RowKit Go.Sort Go.Shelf Go.Maps
open Go.ChangeMaps Go.MapKept
set_option linter.unusedSimpArgs false
set_option linter.unusedVariables false
set_option maxRecDepth 100000
structure ArcIn (w : World) (a : Option Addr) (n c : Nat) (os : List OfR) (es : Nat → List En) (ha : Option Addr) (hn hc : Nat) (hs : List Hd) : Prop where
 row : Rw w a n c os
 few : n ≤ 4
 off : ∀ j, j < n → Rw w (nthR os j).a (nthR os j).n (nthR os j).c (es j) ∧ offB (nthR os j).id (es j) = true
 asc : ∀ j, j < n → ∀ i, i < j → (nthR os i).id < (nthR os j).id
 hrow : Rw w ha hn hc hs
 hfew : hn ≤ 12
theorem ArcIn.apart {w : World} {a : Option Addr} {n c : Nat} {os : List OfR} {es : Nat → List En} {ha : Option Addr} {hn hc : Nat} {hs : List Hd} (h : ArcIn w a n c os es ha hn hc hs) : Apart os n := fun j hj =>
 ⟨h.row.wfAt hj, fun i hi => by have := h.asc j hj i hi; omega⟩
def lastI (os : List OfR) : Nat → Int
 | 0 => 0
 | k + 1 => (nthR os k).id
theorem ArcIn.last {w : World} {a : Option Addr} {n c : Nat} {os : List OfR} {es : Nat → List En} {ha : Option Addr} {hn hc : Nat} {hs : List Hd} (h : ArcIn w a n c os es ha hn hc hs) : ∀ {k : Nat}, k < n → lastI os k < (nthR os k).id
 | 0, hk => by have := (offB_iff.1 (h.off 0 hk).2).1; simp only [lastI]; omega
 | k + 1, hk => h.asc (k + 1) hk k (Nat.lt_succ_self k)
theorem grownBy_trans {A B C : World} {row : Option Nat} (h1 : A.grownBy B row) (h2 : B.grownBy C row) : A.grownBy C row :=
 ⟨h2.os.trans h1.os, h2.tape.trans h1.tape, h2.output.trans h1.output, Nat.le_trans h1.size h2.size, fun k hk hr => (h2.block k (Nat.lt_of_lt_of_le hk h1.size) hr).trans (h1.block k hk hr)⟩
theorem Bk.gby {V W : World} {b mb : Nat} {T : TypeId} {cs : Array Value} (h : Bk V b T cs) (hg : V.grownBy W (some mb)) (hne : b ≠ mb) : Bk W b T cs :=
 (hg.block b h.lt (by simp [hne])).trans h
theorem cells_of {W : World} {b o : Nat} {q : OfR} (h : W.rangeAt b o (Cel.enc q)) : W.cell? ⟨b, o, none⟩ = some (.int .i64 q.id) ∧ W.cell? ⟨b, o + 1, none⟩ = some (.slice q.a q.n q.c) :=
 ⟨by simpa using h 0 _ rfl, h 1 _ rfl⟩
theorem ext_map {V W W' : World} {b : Nat} (h : Ext V W) (hg : W.grownBy W' (some b)) (hb : V.heap.size ≤ b) : Ext V W' := Below.grown h hg h.size (fun k e => by cases e; exact hb)
theorem lenlit13 {vs : List Value} (h : vs.length = 13) : ∃ x0 x1 x2 x3 x4 x5 x6 x7 x8 x9 x10 x11 x12 : Value, vs = [x0, x1, x2, x3, x4, x5, x6, x7, x8, x9, x10, x11, x12] := by
 obtain ⟨x0, v0, rfl, h0⟩ := len_cons h
 obtain ⟨x1, v1, rfl, h1⟩ := len_cons h0
 obtain ⟨x2, v2, rfl, h2⟩ := len_cons h1
 obtain ⟨x3, v3, rfl, h3⟩ := len_cons h2
 obtain ⟨x4, v4, rfl, h4⟩ := len_cons h3
 obtain ⟨x5, v5, rfl, h5⟩ := len_cons h4
 obtain ⟨x6, v6, rfl, h6⟩ := len_cons h5
 obtain ⟨x7, v7, rfl, h7⟩ := len_cons h6
 obtain ⟨x8, v8, rfl, h8⟩ := len_cons h7
 obtain ⟨x9, v9, rfl, h9⟩ := len_cons h8
 obtain ⟨x10, v10, rfl, h10⟩ := len_cons h9
 obtain ⟨x11, v11, rfl, h11⟩ := len_cons h10
 obtain ⟨x12, v12, rfl, h12⟩ := len_cons h11
 obtain rfl := len_nil h12
 exact ⟨x0, x1, x2, x3, x4, x5, x6, x7, x8, x9, x10, x11, x12, rfl⟩
structure ArI (V : World) (mb : Nat) (os : List OfR) (k : Nat) (listed : Nat → Bool) (W : World) : Prop where
 gb : V.grownBy W (some mb)
 a0 : listed 9 = false → OMap W mb os k
 a1 : listed 9 = true → listed 11 = false → W.heap[mb]? = some (.map (midA os k) (k + 1))
 a2 : listed 11 = true → OMap W mb os (k + 1)
theorem ArI.other {V : World} {mb : Nat} {os : List OfR} {k : Nat} {listed : Nat → Bool} {W : World} (h : ArI V mb os k listed W) {i : Nat} (h1 : i ≠ 9) (h2 : i ≠ 11) : ArI V mb os k (updE listed i) W := by
 have e1 : updE listed i 9 = listed 9 := by simp [updE, h1.symm]
 have e2 : updE listed i 11 = listed 11 := by simp [updE, h2.symm]
 exact ⟨h.gb, by rw [e1]; exact h.a0, by rw [e1, e2]; exact h.a1, by rw [e2]; exact h.a2⟩
set_option maxHeartbeats 8000000 in
theorem newArchive_yes {a : Option Addr} {n c : Nat} {os : List OfR} {es : Nat → List En} {ha : Option Addr} {hn hc : Nat} {hs : List Hd} {w : World} (H : ArcIn w a n c os es ha hn hc hs) (ht : TB w) :
  Calls Tryz.prog 31 #[.slice a n c, .slice ha hn hc] w fun e w' => ∃ b mb, e = .returned (.tuple #[.pointer (some ⟨b, 0, none⟩), .int .i64 0]) ∧ Bk w' b 95 #[.map (some mb), .slice ha hn hc] ∧ OMap w' mb os n ∧ Ext w w' := by
 have bd := H.row.bd
 have bh := H.hrow.bd
 have hfew := H.few
 have hhf := H.hfew
 have HROW := Lib.hid H.row
 have HHR := Lib.hid H.hrow
 have HAP := Lib.hid H.apart
 have HLA := Lib.hid (fun (k : Nat) (hk : k < n) => H.last hk)
 have HOV := Lib.hid (fun (k : Nat) (hk : k < n) (W : World) (hx : Ext w W) => ovalid_yes (nthR os k).id (nthR os k).a (nthR os k).n (nthR os k).c (es k) W ((H.off k hk).1.ext hx) (H.off k hk).2)
 have HRG := Lib.hid (fun (k : Nat) (hk : k < hn) (W : World) (hx : Ext w W) => oright_any 4 (by omega) memB4 (nthR hs k) (H.hrow.wfAt hk) W (ht.ext hx))
 clear H ht
 have hmm := @run_makeMap Tryz.prog
 have g1 : ¬ ((4 : Int) < (n : Int)) := by omega
 have g2 : decide ((4 : Int) < (n : Int)) = false := decide_eq_false g1
 have g3 : ¬ (4 < n) := by omega
 have g4 : ¬ ((12 : Int) < (hn : Int)) := by omega
 have g5 : decide ((12 : Int) < (hn : Int)) = false := decide_eq_false g4
 have g6 : ¬ (12 < hn) := by omega
 go_enter Tryz.func31, Tryz.ntmps31
 go_upto_region 4 with fail
 have hA := Bk.new (w.alloc (.map #[] 0)) 95 #[.map (some w.heap.size), .slice ha hn hc]
 rw [show (w.alloc (.map #[] 0)).heap.size = w.heap.size + 1 from Array.size_push _] at hA
 have hM : OMap (w.alloc (.map #[] 0)) w.heap.size os 0 := (MapKept.heap_alloc w _).1
 replace hM := hM.ext ((Ext.refl _).alloc (.cells #[.map (some w.heap.size), .slice ha hn hc] 95))
 have hx : Ext w ((w.alloc (.map #[] 0)).alloc (.cells #[.map (some w.heap.size), .slice ha hn hc] 95)) := ((Ext.refl w).alloc _).alloc _
 clear hmm g1 g2 g3 g4 g5 g6
 generalize (w.alloc (.map #[] 0)).alloc (.cells #[.map (some w.heap.size), .slice ha hn hc] 95) = V at *
 obtain ⟨mb, hmb⟩ : ∃ b, w.heap.size = b := ⟨_, rfl⟩
 have HMB : Hid (w.heap.size ≤ mb) := Lib.hid (by omega)
 rw [hmb] at hA hM ⊢
 clear hmb
 obtain ⟨b, hb⟩ : ∃ b, mb + 1 = b := ⟨_, rfl⟩
 have HNEB : Hid (b ≠ mb) := Lib.hid (by omega)
 rw [hb] at hA ⊢
 clear hb
 go_wp2_with fail
 go_loopw [7, 28] (fun u ix wr => ∃ (k : Nat), k ≤ n ∧ u = .int .i64 (lastI os k) ∧ ix = .int .i64 k ∧ OMap wr mb os k ∧ Bk wr b 95 #[.map (some mb), .slice ha hn hc] ∧ Ext w wr) (fun _ ix _ => n - (intOf ix).toNat)
 case atStart => exact ⟨0, by omega, rfl, rfl, hM, hA, hx⟩
 case round =>
  clear hM hA hx
  obtain ⟨k, hk, rfl, rfl, hM, hA, hx⟩ := hrel
  by_cases hlt : k < n
  ·obtain ⟨x1, o1, rfl, hc1⟩ := HROW.out.at (by omega)
   have hr := rangeAt_ext (hc1 k hlt) hx
   rw [sz_of] at hr
   clear hc1
   have HV := Lib.hid (HOV.out k hlt)
   have hla := HLA.out k hlt
   have HEN : Hid (∀ W, OMap W mb os k → (Instr.mapEntry 93 (.map (some mb)) (.int .i64 (nthR os k).id)).run Tryz.prog W = .ok (.tuple #[of0, .int .i64 k]) (setBlock W mb (.map (midA os k) (k + 1)))) := Lib.hid (fun W h => h.entry (HAP.out.mono (by omega)) (by unfold maxLen; omega))
   have HST : Hid (∀ W : World, W.heap[mb]? = some (.map (midA os k) (k + 1)) → (Instr.entryStore 93 (.map (some mb)) (.int .i64 k) (ofV (nthR os k))).run Tryz.prog W = .ok () (setBlock W mb (.map (mapA os (k + 1)) (k + 1)))) := Lib.hid (fun W h => OMap.stored h)
   have HLI : Hid (lastI os (k + 1) = (nthR os k).id) := Lib.hid rfl
   generalize lastI os k = L at *
   generalize nthR os k = o at *
   obtain ⟨id, oa, on, oc⟩ := o
   simp only at HV hla HEN HLI
   unfold ofV at HST
   simp only at HST
   obtain ⟨d0, d1⟩ := cells_of hr
   simp only at d0 d1
   clear hr
   have hO := Bk.new wr 24 #[.int .i64 id, .slice oa on oc]
   have hx1 : Ext wr (wr.alloc (.cells #[.int .i64 id, .slice oa on oc] 24)) := (Ext.refl wr).alloc _
   go_upto_region 8 with fail
   clear d0 d1
   have HNE9 : Hid (wr.heap.size ≠ mb) := Lib.hid (by have := hM.lt; omega)
   replace hx := hx.trans hx1
   replace hA := hA.ext hx1
   replace hM := hM.ext hx1
   clear hx1
   generalize wr.alloc (.cells #[.int .i64 id, .slice oa on oc] 24) = V5 at *
   obtain ⟨b9, hb9⟩ : ∃ b, wr.heap.size = b := ⟨_, rfl⟩
   rw [hb9] at hO HNE9 ⊢
   clear hb9
   have e0 := hO.c 0 _ rfl
   have e1 := hO.c 1 _ rfl
   have g1 : ¬ (id ≤ L) := by omega
   have g2 : decide (id ≤ L) = false := decide_eq_false g1
   go_wp2_with (go_at_call 26; refine (HV.out _ hx).mono ?_; rintro e9 w1 ⟨rfl, hx1⟩; refine hold ?_)
   refine held ?_
   replace hx := hx.trans hx1
   replace hA := hA.ext hx1
   replace hM := hM.ext hx1
   replace hO := hO.ext hx1
   clear hx1 e0 e1
   have e0 := hO.c 0 _ rfl
   go_upto_region 10 with fail
   clear e0 g1 g2 hla
   have HI : ArI w1 mb os k (fun _ => false) { w1 with drawn := w1.drawn + 1 } := ⟨⟨rfl, rfl, rfl, Nat.le_refl _, fun _ _ _ => rfl⟩, fun _ => hM, (fun h => by cases h), (fun h => by cases h)⟩
   refine region_relyF (ArI w1 mb os k) [some 41, some 42, some 43, some 44, some 45, some 46, some 47, some 48, some 49, some 50, some 51, none, some 7] [[], [0], [0, 1], [0, 1, 2], [], [4], [], [], [7], [0, 1, 2, 3, 4, 5], [0, 1, 2, 3, 4, 5, 9], [0, 1, 2, 3, 4, 5, 6, 9, 10], [0, 1, 2, 3, 4, 5, 6, 7, 8, 9, 10, 11]] [[], [0], [1], [2], [], [4], [], [], [7], [3, 5], [9], [3, 6, 10], [8]] [none, none, none, none, none, none, none, none, none, none, none, none, none] [false, false, false, false, false, false, false, false, false, false, false, false, false] [.one ((.pointer (some ⟨b, 0, none⟩))), .one ((.pointer (some ⟨b, 0, none⟩))), .one ((.pointer (some ⟨b, 0, none⟩))), .one ((.map (some mb))), .one ((.pointer (some ⟨b9, 0, none⟩))), .one ((.int .i64 id)), .one ((.agg #[.int .i64 id, .slice oa on oc])), .one ((.pointer (some ⟨b9, 0, none⟩))), .one ((.int .i64 id)), .one ((.tuple #[of0, .int .i64 k])), .one ((.int .i64 k)), .any, .one ((.int .i64 id))] (by kernel_rfl) (by kernel_rfl) rfl HI ?_ ?_
   ·refine stepsF_cons ?_ ?_
    ·intro listed vs W' hl hI hd hs hn hu hz ho9
     refine hold ?_
     obtain ⟨x0, x1, x2, x3, x4, x5, x6, x7, x8, x9, x10, x11, x12, rfl⟩ := lenlit13 hl; clear hl
     refine held ?_
     simp only [putAll, Act.put, List.setIfInBounds_toArray, List.set_cons_succ, List.set_cons_zero]
     go_wp2_with fail
     exact relyE_done _ rfl rfl (Ext.refl _) (hI.other (by decide) (by decide))
    refine stepsF_cons ?_ ?_
    ·intro listed vs W' hl hI hd hs hn hu hz ho9
     refine hold ?_
     obtain ⟨x0, x1, x2, x3, x4, x5, x6, x7, x8, x9, x10, x11, x12, rfl⟩ := lenlit13 hl; clear hl
     simp only [factsL, atL, refV, List.getElem?_cons_succ, List.getElem?_cons_zero, List.getD_cons_succ, List.getD_cons_zero, RelL.one, RelL.any, RelL.blk, RelL.law] at hd
     obtain ⟨rfl, -⟩ := hd
     refine held ?_
     simp only [putAll, Act.put, List.setIfInBounds_toArray, List.set_cons_succ, List.set_cons_zero]
     go_wp2_with fail
     exact relyE_done _ rfl rfl (Ext.refl _) (hI.other (by decide) (by decide))
    refine stepsF_cons ?_ ?_
    ·intro listed vs W' hl hI hd hs hn hu hz ho9
     refine hold ?_
     obtain ⟨x0, x1, x2, x3, x4, x5, x6, x7, x8, x9, x10, x11, x12, rfl⟩ := lenlit13 hl; clear hl
     simp only [factsL, atL, refV, List.getElem?_cons_succ, List.getElem?_cons_zero, List.getD_cons_succ, List.getD_cons_zero, RelL.one, RelL.any, RelL.blk, RelL.law] at hd
     obtain ⟨rfl, -⟩ := hd
     refine held ?_
     simp only [putAll, Act.put, List.setIfInBounds_toArray, List.set_cons_succ, List.set_cons_zero]
     go_wp2_with fail
     exact relyE_done _ rfl rfl (Ext.refl _) (hI.other (by decide) (by decide))
    refine stepsF_cons ?_ ?_
    ·intro listed vs W' hl hI hd hs hn hu hz ho9
     refine hold ?_
     obtain ⟨x0, x1, x2, x3, x4, x5, x6, x7, x8, x9, x10, x11, x12, rfl⟩ := lenlit13 hl; clear hl
     simp only [factsL, atL, refV, List.getElem?_cons_succ, List.getElem?_cons_zero, List.getD_cons_succ, List.getD_cons_zero, RelL.one, RelL.any, RelL.blk, RelL.law] at hd
     obtain ⟨rfl, -⟩ := hd
     refine held ?_
     simp only [putAll, Act.put, List.setIfInBounds_toArray, List.set_cons_succ, List.set_cons_zero]
     have hba := hA.gby hI.gb HNEB.out
     have d0 := hba.c 0 _ rfl
     go_wp2_with fail
     exact relyE_done _ rfl rfl (Ext.refl _) (hI.other (by decide) (by decide))
    refine stepsF_cons ?_ ?_
    ·intro listed vs W' hl hI hd hs hn hu hz ho9
     refine hold ?_
     obtain ⟨x0, x1, x2, x3, x4, x5, x6, x7, x8, x9, x10, x11, x12, rfl⟩ := lenlit13 hl; clear hl
     refine held ?_
     simp only [putAll, Act.put, List.setIfInBounds_toArray, List.set_cons_succ, List.set_cons_zero]
     go_wp2_with fail
     exact relyE_done _ rfl rfl (Ext.refl _) (hI.other (by decide) (by decide))
    refine stepsF_cons ?_ ?_
    ·intro listed vs W' hl hI hd hs hn hu hz ho9
     refine hold ?_
     obtain ⟨x0, x1, x2, x3, x4, x5, x6, x7, x8, x9, x10, x11, x12, rfl⟩ := lenlit13 hl; clear hl
     simp only [factsL, atL, refV, List.getElem?_cons_succ, List.getElem?_cons_zero, List.getD_cons_succ, List.getD_cons_zero, RelL.one, RelL.any, RelL.blk, RelL.law] at hd
     obtain ⟨rfl, -⟩ := hd
     refine held ?_
     simp only [putAll, Act.put, List.setIfInBounds_toArray, List.set_cons_succ, List.set_cons_zero]
     have hb9 := hO.gby hI.gb HNE9.out
     have d0 := hb9.c 0 _ rfl
     go_wp2_with fail
     exact relyE_done _ rfl rfl (Ext.refl _) (hI.other (by decide) (by decide))
    refine stepsF_cons ?_ ?_
    ·intro listed vs W' hl hI hd hs hn hu hz ho9
     refine hold ?_
     obtain ⟨x0, x1, x2, x3, x4, x5, x6, x7, x8, x9, x10, x11, x12, rfl⟩ := lenlit13 hl; clear hl
     refine held ?_
     simp only [putAll, Act.put, List.setIfInBounds_toArray, List.set_cons_succ, List.set_cons_zero]
     have hb9 := hO.gby hI.gb HNE9.out
     have d0 := hb9.c 0 _ rfl
     have d1 := hb9.c 1 _ rfl
     go_wp2_with fail
     exact relyE_done _ rfl rfl (Ext.refl _) (hI.other (by decide) (by decide))
    refine stepsF_cons ?_ ?_
    ·intro listed vs W' hl hI hd hs hn hu hz ho9
     refine hold ?_
     obtain ⟨x0, x1, x2, x3, x4, x5, x6, x7, x8, x9, x10, x11, x12, rfl⟩ := lenlit13 hl; clear hl
     refine held ?_
     simp only [putAll, Act.put, List.setIfInBounds_toArray, List.set_cons_succ, List.set_cons_zero]
     go_wp2_with fail
     exact relyE_done _ rfl rfl (Ext.refl _) (hI.other (by decide) (by decide))
    refine stepsF_cons ?_ ?_
    ·intro listed vs W' hl hI hd hs hn hu hz ho9
     refine hold ?_
     obtain ⟨x0, x1, x2, x3, x4, x5, x6, x7, x8, x9, x10, x11, x12, rfl⟩ := lenlit13 hl; clear hl
     simp only [factsL, atL, refV, List.getElem?_cons_succ, List.getElem?_cons_zero, List.getD_cons_succ, List.getD_cons_zero, RelL.one, RelL.any, RelL.blk, RelL.law] at hd
     obtain ⟨rfl, -⟩ := hd
     refine held ?_
     simp only [putAll, Act.put, List.setIfInBounds_toArray, List.set_cons_succ, List.set_cons_zero]
     have hb9 := hO.gby hI.gb HNE9.out
     have d0 := hb9.c 0 _ rfl
     go_wp2_with fail
     exact relyE_done _ rfl rfl (Ext.refl _) (hI.other (by decide) (by decide))
    refine stepsF_cons ?_ ?_
    ·intro listed vs W' hl hI hd hs hn hu hz ho9
     refine hold ?_
     obtain ⟨x0, x1, x2, x3, x4, x5, x6, x7, x8, x9, x10, x11, x12, rfl⟩ := lenlit13 hl; clear hl
     simp only [factsL, atL, refV, List.getElem?_cons_succ, List.getElem?_cons_zero, List.getD_cons_succ, List.getD_cons_zero, RelL.one, RelL.any, RelL.blk, RelL.law] at hd
     obtain ⟨rfl, rfl, -⟩ := hd
     refine held ?_
     simp only [putAll, Act.put, List.setIfInBounds_toArray, List.set_cons_succ, List.set_cons_zero]
     have hrun := HEN.out W' (hI.a0 hz)
     go_wp2_with fail
     exact relyE_store _ rfl rfl (by simp [setBlock]) ⟨fun _ _ h => h, fun _ _ h => h, fun _ _ h => h, fun _ _ h => h, fun _ _ h => h, fun _ _ h => h, fun _ _ h => h, fun _ _ h => h, fun _ _ h => h, fun _ _ h => h, fun _ _ h => h, fun _ _ h => h, fun _ _ h => h, trivial⟩ ⟨grownBy_trans hI.gb (grownBy_setBlock (hI.a0 hz) _), fun h => by simp [updE] at h, fun _ _ => heap_setBlock_same (hI.a0 hz) _, fun h => by simp [updE] at h; exact absurd (by decide) (hu 11 h)⟩
    refine stepsF_cons ?_ ?_
    ·intro listed vs W' hl hI hd hs hn hu hz ho9
     refine hold ?_
     obtain ⟨x0, x1, x2, x3, x4, x5, x6, x7, x8, x9, x10, x11, x12, rfl⟩ := lenlit13 hl; clear hl
     simp only [factsL, atL, refV, List.getElem?_cons_succ, List.getElem?_cons_zero, List.getD_cons_succ, List.getD_cons_zero, RelL.one, RelL.any, RelL.blk, RelL.law] at hd
     obtain ⟨rfl, -⟩ := hd
     refine held ?_
     simp only [putAll, Act.put, List.setIfInBounds_toArray, List.set_cons_succ, List.set_cons_zero]
     go_wp2_with fail
     exact relyE_done _ rfl rfl (Ext.refl _) (hI.other (by decide) (by decide))
    refine stepsF_cons ?_ ?_
    ·intro listed vs W' hl hI hd hs hn hu hz ho9
     refine hold ?_
     obtain ⟨x0, x1, x2, x3, x4, x5, x6, x7, x8, x9, x10, x11, x12, rfl⟩ := lenlit13 hl; clear hl
     simp only [factsL, atL, refV, List.getElem?_cons_succ, List.getElem?_cons_zero, List.getD_cons_succ, List.getD_cons_zero, RelL.one, RelL.any, RelL.blk, RelL.law] at hd
     obtain ⟨rfl, rfl, rfl, -⟩ := hd
     refine held ?_
     simp only [putAll, Act.put, List.setIfInBounds_toArray, List.set_cons_succ, List.set_cons_zero]
     have hrun := HST.out W' (hI.a1 (hs 9 (by decide)) hz)
     go_wp2_with fail
     exact relyE_store undef rfl trivial (by simp [setBlock]) ⟨fun _ _ h => h, fun _ _ h => h, fun _ _ h => h, fun _ _ h => h, fun _ _ h => h, fun _ _ h => h, fun _ _ h => h, fun _ _ h => h, fun _ _ h => h, fun _ _ h => h, fun _ _ h => h, fun _ _ h => h, fun _ _ h => h, trivial⟩ ⟨grownBy_trans hI.gb (grownBy_setBlock (hI.a1 (hs 9 (by decide)) hz) _), fun h => by simp [updE, hs 9 (by decide)] at h, fun _ h => by simp [updE] at h, fun _ => heap_setBlock_same (hI.a1 (hs 9 (by decide)) hz) _⟩
    refine stepsF_cons ?_ ?_
    ·intro listed vs W' hl hI hd hs hn hu hz ho9
     refine hold ?_
     obtain ⟨x0, x1, x2, x3, x4, x5, x6, x7, x8, x9, x10, x11, x12, rfl⟩ := lenlit13 hl; clear hl
     simp only [factsL, atL, refV, List.getElem?_cons_succ, List.getElem?_cons_zero, List.getD_cons_succ, List.getD_cons_zero, RelL.one, RelL.any, RelL.blk, RelL.law] at hd
     obtain ⟨rfl, -⟩ := hd
     refine held ?_
     simp only [putAll, Act.put, List.setIfInBounds_toArray, List.set_cons_succ, List.set_cons_zero]
     go_wp2_with fail
     exact relyE_done _ rfl rfl (Ext.refl _) (hI.other (by decide) (by decide))
    exact trivial
   ·intro listed vs W' hl hall hI hd hn
    obtain ⟨x0, x1, x2, x3, x4, x5, x6, x7, x8, x9, x10, x11, x12, rfl⟩ := lenlit13 hl; clear hl
    simp only [List.length_cons, List.length_nil, List.range, List.range.loop, Nat.zero_add, Nat.reduceAdd, factsL, atL, refV, List.getElem?_cons_succ, List.getElem?_cons_zero, List.getD_cons_succ, List.getD_cons_zero, RelL.one, RelL.any, RelL.blk, RelL.law] at hd
    obtain ⟨rfl, rfl, rfl, rfl, rfl, rfl, rfl, rfl, rfl, rfl, rfl, -, rfl, -⟩ := hd
    simp only [putAll, Act.put, List.setIfInBounds_toArray, List.set_cons_succ, List.set_cons_zero]
    have hM2 := hI.a2 (hall 11 (by decide))
    have hg2 := hI.gb
    have hA2 := hA.gby hg2 HNEB.out
    have hx2 := ext_map hx hg2 HMB.out
    clear hall hn hI hM hA hx hO hg2
    go_wp2_with fail
    exact ⟨⟨k + 1, by omega, by rw [HLI.out], by go_num, hM2, hA2, hx2⟩, by simp only [intOf]; omega⟩
  ·obtain rfl : n = k := by omega
   go_wp2_with fail
   go_loopw [55] (fun ix wr => ∃ (k : Nat), k ≤ hn ∧ ix = .int .i64 k ∧ OMap wr mb os n ∧ Bk wr b 95 #[.map (some mb), .slice ha hn hc] ∧ Ext w wr) (fun ix _ => hn - (intOf ix).toNat)
   case atStart => exact ⟨0, by omega, rfl, hM, hA, hx⟩
   case round =>
    clear hM hA hx
    obtain ⟨k, hk, rfl, hM, hA, hx⟩ := hrel
    by_cases hlt : k < hn
    ·obtain ⟨x1, o1, rfl, hc1⟩ := HHR.out.at (by omega)
     have hr := rangeAt_ext (hc1 k hlt) hx
     rw [sz_hd] at hr
     clear hc1
     have HR := Lib.hid (HRG.out k hlt)
     generalize nthR hs k = h at *
     generalize rightH 4 h = RB at *
     unfold hdV at HR
     obtain ⟨d0, d1, d2, d3, d4⟩ := cells_hd hr
     clear hr
     have hO := Bk.new wr 34 #[.int .i64 h.o, .int .i64 h.s, .int .u64 h.r, .int .i64 h.C, .int .i64 h.S]
     have hx1 : Ext wr (wr.alloc (.cells #[.int .i64 h.o, .int .i64 h.s, .int .u64 h.r, .int .i64 h.C, .int .i64 h.S] 34)) := (Ext.refl wr).alloc _
     go_upto_region 15 with fail
     clear d0 d1 d2 d3 d4
     replace hx := hx.trans hx1
     replace hA := hA.ext hx1
     replace hM := hM.ext hx1
     clear hx1
     generalize wr.alloc (.cells #[.int .i64 h.o, .int .i64 h.s, .int .u64 h.r, .int .i64 h.C, .int .i64 h.S] 34) = V5 at *
     obtain ⟨b9, hb9⟩ : ∃ b, wr.heap.size = b := ⟨_, rfl⟩
     rw [hb9] at hO ⊢
     clear hb9
     have e0 := hO.c 0 _ rfl
     have e1 := hO.c 1 _ rfl
     have e2 := hO.c 2 _ rfl
     have e3 := hO.c 3 _ rfl
     have e4 := hO.c 4 _ rfl
     go_wp2_with (go_at_call 48; refine (HR.out _ hx).mono ?_; rintro e9 w1 ⟨rfl, hx1⟩; refine hold ?_)
     refine held ?_
     replace hx := hx.trans hx1
     replace hA := hA.ext hx1
     replace hM := hM.ext hx1
     clear hx1 e0 e1 e2 e3 e4 hO
     go_wp2_with fail
     exact ⟨⟨k + 1, by omega, by go_num, hM, hA, hx⟩, by simp only [intOf]; omega⟩
    ·obtain rfl : hn = k := by omega
     go_wp2_with fail
     go_ret2
     exact ⟨b, mb, rfl, hA, hM, hx⟩
open Go.RowKit Go.Sort Go.Shelf Go.Maps
theorem ArcIn.ext {w W : World} {a : Option Addr} {n c : Nat} {os : List OfR} {es : Nat → List En} {ha : Option Addr} {hn hc : Nat} {hs : List Hd} (h : ArcIn w a n c os es ha hn hc hs) (hx : Ext w W) : ArcIn W a n c os es ha hn hc hs :=
 ⟨h.row.ext hx, h.few, fun j hj => ⟨(h.off j hj).1.ext hx, (h.off j hj).2⟩, h.asc, h.hrow.ext hx, h.hfew⟩
structure Arc (w : World) (b mb : Nat) (a : Option Addr) (n c : Nat) (os : List OfR) (es : Nat → List En) (ha : Option Addr) (hn hc : Nat) (hs : List Hd) : Prop where
 inn : ArcIn w a n c os es ha hn hc hs
 box : Bk w b 95 #[.map (some mb), .slice ha hn hc]
 map : OMap w mb os n
theorem Arc.ext {w W : World} {b mb : Nat} {a : Option Addr} {n c : Nat} {os : List OfR} {es : Nat → List En} {ha : Option Addr} {hn hc : Nat} {hs : List Hd} (h : Arc w b mb a n c os es ha hn hc hs) (hx : Ext w W) : Arc W b mb a n c os es ha hn hc hs :=
 ⟨h.inn.ext hx, h.box.ext hx, h.map.ext hx⟩
theorem Arc.look {w : World} {b mb : Nat} {a : Option Addr} {n c : Nat} {os : List OfR} {es : Nat → List En} {ha : Option Addr} {hn hc : Nat} {hs : List Hd} (h : Arc w b mb a n c os es ha hn hc hs) (ok : Bool) {j : Nat} (hj : j < n) {id : Int} (e : (nthR os j).id = id) :
  (Instr.lookup 93 (.map (some mb)) (.int .i64 id) ok).run Tryz.prog w = .ok (if ok then .tuple #[ofV (nthR os j), .bool true] else ofV (nthR os j)) w :=
 h.map.look h.inn.apart (by have := h.inn.few; unfold maxLen; omega) ok hj e
theorem has_yes {b mb : Nat} {a : Option Addr} {n c : Nat} {os : List OfR} {es : Nat → List En} {ha : Option Addr} {hn hc : Nat} {hs : List Hd} {w : World} (H : Arc w b mb a n c os es ha hn hc hs) (j i : Nat) (hj : j < n) (hi : i < (nthR os j).n) :
  Calls Tryz.prog 32 #[.pointer (some ⟨b, 0, none⟩), .int .i64 (nthR os j).id, .int .i64 i] w fun e w' => e = .returned (.bool true) ∧ Ext w w' := by
 have hrun := H.look true hj rfl
 have c0 := H.box.c 0 _ rfl
 clear H
 unfold ofV at hrun
 generalize nthR os j = o at *
 obtain ⟨id, oa, on, oc⟩ := o
 simp only [if_true] at hrun hi ⊢
 have g1 : ¬ ((i : Int) < 0) := by omega
 have g2 : (i : Int) < (on : Int) := by omega
 have g3 : decide ((i : Int) < (on : Int)) = true := decide_eq_true g2
 have g4 : (0 : Int) ≤ (i : Int) := by omega
 have g5 : decide ((0 : Int) ≤ (i : Int)) = true := decide_eq_true g4
 go_enter Tryz.func32, Tryz.ntmps32
 go_wp2_with fail
 go_ret
 exact ⟨rfl, (Ext.refl w).alloc _⟩
def Held (os : List OfR) (es : Nat → List En) (n : Nat) (h : Hd) : Prop := ∃ j, j < n ∧ (nthR os j).id = h.o ∧ ∃ s : Nat, h.s = s ∧ s ≤ (nthR os j).n ∧ rootT (vals ((es j).take s)) = h.r
def RPr (h : Hd) (e : En) : RelL Ext := ⟨none, fun _ v _ => ∃ pa pn pc, v = .tuple #[rcV h 0 e pa pn pc, .int .i64 0], fun _ _ _ _ h _ => h⟩
def RRr (h : Hd) (e : En) : RelL Ext := ⟨none, fun _ v _ => ∃ pa pn pc, v = rcV h 0 e pa pn pc, fun _ _ _ _ h _ => h⟩
def RTb (V : World) : RelL Ext := ⟨none, fun _ v W => ∃ b u0 u1 u2 u3 u4 u5 u6 u7 u8 u9, v = .pointer (some ⟨b, 0, none⟩) ∧ V.heap.size ≤ b ∧ Bk W b 44 #[u0, u1, u2, u3, u4, u5, u6, u7, u8, u9], fun _ v W W' ⟨b, u0, u1, u2, u3, u4, u5, u6, u7, u8, u9, h1, h2, h3⟩ hE => ⟨b, u0, u1, u2, u3, u4, u5, u6, u7, u8, u9, h1, h2, h3.ext hE⟩⟩
theorem lenlit15 {vs : List Value} (h : vs.length = 15) : ∃ x0 x1 x2 x3 x4 x5 x6 x7 x8 x9 x10 x11 x12 x13 x14 : Value, vs = [x0, x1, x2, x3, x4, x5, x6, x7, x8, x9, x10, x11, x12, x13, x14] := by
 obtain ⟨x0, v0, rfl, h0⟩ := len_cons h
 obtain ⟨x1, v1, rfl, h1⟩ := len_cons h0
 obtain ⟨x2, v2, rfl, h2⟩ := len_cons h1
 obtain ⟨x3, v3, rfl, h3⟩ := len_cons h2
 obtain ⟨x4, v4, rfl, h4⟩ := len_cons h3
 obtain ⟨x5, v5, rfl, h5⟩ := len_cons h4
 obtain ⟨x6, v6, rfl, h6⟩ := len_cons h5
 obtain ⟨x7, v7, rfl, h7⟩ := len_cons h6
 obtain ⟨x8, v8, rfl, h8⟩ := len_cons h7
 obtain ⟨x9, v9, rfl, h9⟩ := len_cons h8
 obtain ⟨x10, v10, rfl, h10⟩ := len_cons h9
 obtain ⟨x11, v11, rfl, h11⟩ := len_cons h10
 obtain ⟨x12, v12, rfl, h12⟩ := len_cons h11
 obtain ⟨x13, v13, rfl, h13⟩ := len_cons h12
 obtain ⟨x14, v14, rfl, h14⟩ := len_cons h13
 obtain rfl := len_nil h14
 exact ⟨x0, x1, x2, x3, x4, x5, x6, x7, x8, x9, x10, x11, x12, x13, x14, rfl⟩
theorem keepTb {V W : World} {v : Value} (h : ∃ b u0 u1 u2 u3 u4 u5 u6 u7 u8 u9, v = .pointer (some ⟨b, 0, none⟩) ∧ V.heap.size ≤ b ∧ Bk W b 44 #[u0, u1, u2, u3, u4, u5, u6, u7, u8, u9]) (p : Nat) (v0 v1 v2 v3 v4 v5 v6 v7 v8 v9 : Value) :
  ∃ b u0 u1 u2 u3 u4 u5 u6 u7 u8 u9, v = .pointer (some ⟨b, 0, none⟩) ∧ V.heap.size ≤ b ∧ Bk ((((((((((W.setCell ⟨p, 0, none⟩ v0).setCell ⟨p, 1, none⟩ v1).setCell ⟨p, 2, none⟩ v2).setCell ⟨p, 3, none⟩ v3).setCell ⟨p, 4, none⟩ v4).setCell ⟨p, 5, none⟩ v5).setCell ⟨p, 6, none⟩ v6).setCell ⟨p, 7, none⟩ v7).setCell ⟨p, 8, none⟩ v8).setCell ⟨p, 9, none⟩ v9) b 44 #[u0, u1, u2, u3, u4, u5, u6, u7, u8, u9] := by
 obtain ⟨b, u0, u1, u2, u3, u4, u5, u6, u7, u8, u9, h1, h2, h3⟩ := h
 by_cases e : p = b
 ·subst e
  exact ⟨_, _, _, _, _, _, _, _, _, _, _, h1, h2, h3.set10 v0 v1 v2 v3 v4 v5 v6 v7 v8 v9⟩
 ·exact ⟨_, _, _, _, _, _, _, _, _, _, _, h1, h2, h3.other10 e v0 v1 v2 v3 v4 v5 v6 v7 v8 v9⟩
set_option maxHeartbeats 8000000 in
theorem prv_no {b mb bx : Nat} {a : Option Addr} {n c : Nat} {os : List OfR} {es : Nat → List En} {ha : Option Addr} {hn hc : Nat} {hs : List Hd} {w : World} (H : Arc w b mb a n c os es ha hn hc hs) (hbx : w.cell? ⟨bx, 0, none⟩ = some (.pointer (some ⟨b, 0, none⟩))) (h : Hd) (hk : h.Ok) (hh : Held os es n h) (ht : TB w) :
  Calls Tryz.prog 68 #[hdV h, .pointer (some ⟨bx, 0, none⟩)] w fun e w' => e = .returned (.bool false) ∧ Ext w w' := by
 obtain ⟨j, hj, hid, s, hs, hsn, hr⟩ := hh
 have hs1 := hk.s
 have HLK := Lib.hid (fun (W : World) (hx : Ext w W) => (H.ext hx).look false hj hid)
 have HPV := Lib.hid (fun (W : World) (hx : Ext w W) => oprove_yes (nthR os j).id (nthR os j).a (nthR os j).n (nthR os j).c (es j) s 0 h.r h.C h.S W ((H.inn.off j hj).1.ext hx) (H.inn.off j hj).2 (by omega) hsn (by omega) hr (by rw [hid, ← hs]; exact hk) (ht.ext hx))
 have HBX := Lib.hid H.box
 have HCX := Lib.hid hbx
 rw [hid, ← hs] at HPV
 clear H hbx hk ht hs1 hr hsn
 unfold ofV at HLK
 simp only [hid, if_false, Bool.false_eq_true] at HLK
 clear hid hs
 generalize (nthR os j).a = oa at *
 generalize (nthR os j).n = on at *
 generalize (nthR os j).c = oc at *
 generalize nthR (es j) 0 = e at *
 unfold hdV
 have hB := Bk.new w 34 #[.int .i64 h.o, .int .i64 h.s, .int .u64 h.r, .int .i64 h.C, .int .i64 h.S]
 have hx : Ext w (w.alloc (.cells #[.int .i64 h.o, .int .i64 h.s, .int .u64 h.r, .int .i64 h.C, .int .i64 h.S] 34)) := (Ext.refl w).alloc _
 go_enter Tryz.func68, Tryz.ntmps68
 go_upto_region 1 with fail
 generalize w.alloc (.cells #[.int .i64 h.o, .int .i64 h.s, .int .u64 h.r, .int .i64 h.C, .int .i64 h.S] 34) = V at *
 obtain ⟨b2, hb2⟩ : ∃ b, w.heap.size = b := ⟨_, rfl⟩
 rw [hb2] at hB ⊢
 clear hb2
 refine region_relyE (fun _ W => Ext V W) [some 7, some 8, some 9, some 10, some 11, some 12, some 13, some 14, some 15, some 6, some 16, some 17, some 4, none, some 5] [[], [0], [0, 1], [0, 1, 2], [], [4], [0, 1, 2, 3, 4, 5], [], [0, 1, 2, 3, 4, 5, 6, 7], [0, 1, 2, 3, 4, 5, 6, 7, 8], [0, 1, 2, 3, 4, 5, 6, 7, 8, 9], [0, 1, 2, 3, 4, 5, 6, 7, 8, 9], [], [0, 1, 2, 3, 4, 5, 6, 7, 8, 9, 10, 12], [0, 1, 2, 3, 4, 5, 6, 7, 8, 9, 10, 11, 12, 13]] [[], [0], [1], [2], [], [4], [3, 5], [], [6, 7], [8], [9], [9], [], [10, 12], [11]] [none, none, none, none, none, none, none, none, none, none, none, none, none, none, none] [false, false, false, false, false, false, false, false, false, false, false, false, false, false, false] [.one ((.pointer (some ⟨b, 0, none⟩))), .one ((.pointer (some ⟨b, 0, none⟩))), .one ((.pointer (some ⟨b, 0, none⟩))), .one ((.map (some mb))), .one ((.pointer (some ⟨b2, 0, none⟩))), .one ((.int .i64 h.o)), .one ((.agg #[.int .i64 h.o, .slice oa on oc])), .one ((.agg #[.int .i64 h.o, .int .i64 h.s, .int .u64 h.r, .int .i64 h.C, .int .i64 h.S])), RPr h e, RPr h e, RRr h e, .one ((.int .i64 0)), RTb V, .any, .one ((.int .i64 0))] (by kernel_rfl) (by kernel_rfl) rfl (Ext.refl V).drew ?_ ?_
 ·refine stepsE_cons ?_ ?_
  ·intro listed vs W' hl hI hd hs hn hu hz
   refine hold ?_
   obtain ⟨x0, x1, x2, x3, x4, x5, x6, x7, x8, x9, x10, x11, x12, x13, x14, rfl⟩ := lenlit15 hl; clear hl
   refine held ?_
   simp only [putAll, Act.put, List.setIfInBounds_toArray, List.set_cons_succ, List.set_cons_zero]
   have d0 := (hx.trans hI).cell HCX.out
   go_wp2_with fail
   exact relyE_done _ rfl rfl (Ext.refl _) hI
  refine stepsE_cons ?_ ?_
  ·intro listed vs W' hl hI hd hs hn hu hz
   refine hold ?_
   obtain ⟨x0, x1, x2, x3, x4, x5, x6, x7, x8, x9, x10, x11, x12, x13, x14, rfl⟩ := lenlit15 hl; clear hl
   simp only [factsL, atL, refV, List.getElem?_cons_succ, List.getElem?_cons_zero, List.getD_cons_succ, List.getD_cons_zero, RelL.one, RelL.any, RelL.blk, RelL.law, RPr, RRr, RTb] at hd
   obtain ⟨rfl, -⟩ := hd
   refine held ?_
   simp only [putAll, Act.put, List.setIfInBounds_toArray, List.set_cons_succ, List.set_cons_zero]
   go_wp2_with fail
   exact relyE_done _ rfl rfl (Ext.refl _) hI
  refine stepsE_cons ?_ ?_
  ·intro listed vs W' hl hI hd hs hn hu hz
   refine hold ?_
   obtain ⟨x0, x1, x2, x3, x4, x5, x6, x7, x8, x9, x10, x11, x12, x13, x14, rfl⟩ := lenlit15 hl; clear hl
   simp only [factsL, atL, refV, List.getElem?_cons_succ, List.getElem?_cons_zero, List.getD_cons_succ, List.getD_cons_zero, RelL.one, RelL.any, RelL.blk, RelL.law, RPr, RRr, RTb] at hd
   obtain ⟨rfl, -⟩ := hd
   refine held ?_
   simp only [putAll, Act.put, List.setIfInBounds_toArray, List.set_cons_succ, List.set_cons_zero]
   go_wp2_with fail
   exact relyE_done _ rfl rfl (Ext.refl _) hI
  refine stepsE_cons ?_ ?_
  ·intro listed vs W' hl hI hd hs hn hu hz
   refine hold ?_
   obtain ⟨x0, x1, x2, x3, x4, x5, x6, x7, x8, x9, x10, x11, x12, x13, x14, rfl⟩ := lenlit15 hl; clear hl
   simp only [factsL, atL, refV, List.getElem?_cons_succ, List.getElem?_cons_zero, List.getD_cons_succ, List.getD_cons_zero, RelL.one, RelL.any, RelL.blk, RelL.law, RPr, RRr, RTb] at hd
   obtain ⟨rfl, -⟩ := hd
   refine held ?_
   simp only [putAll, Act.put, List.setIfInBounds_toArray, List.set_cons_succ, List.set_cons_zero]
   have hA9 := HBX.out.ext (hx.trans hI)
   have d0 := hA9.c 0 _ rfl
   go_wp2_with fail
   exact relyE_done _ rfl rfl (Ext.refl _) hI
  refine stepsE_cons ?_ ?_
  ·intro listed vs W' hl hI hd hs hn hu hz
   refine hold ?_
   obtain ⟨x0, x1, x2, x3, x4, x5, x6, x7, x8, x9, x10, x11, x12, x13, x14, rfl⟩ := lenlit15 hl; clear hl
   refine held ?_
   simp only [putAll, Act.put, List.setIfInBounds_toArray, List.set_cons_succ, List.set_cons_zero]
   go_wp2_with fail
   exact relyE_done _ rfl rfl (Ext.refl _) hI
  refine stepsE_cons ?_ ?_
  ·intro listed vs W' hl hI hd hs hn hu hz
   refine hold ?_
   obtain ⟨x0, x1, x2, x3, x4, x5, x6, x7, x8, x9, x10, x11, x12, x13, x14, rfl⟩ := lenlit15 hl; clear hl
   simp only [factsL, atL, refV, List.getElem?_cons_succ, List.getElem?_cons_zero, List.getD_cons_succ, List.getD_cons_zero, RelL.one, RelL.any, RelL.blk, RelL.law, RPr, RRr, RTb] at hd
   obtain ⟨rfl, -⟩ := hd
   refine held ?_
   simp only [putAll, Act.put, List.setIfInBounds_toArray, List.set_cons_succ, List.set_cons_zero]
   have hB9 := hB.ext hI
   have d0 := hB9.c 0 _ rfl
   go_wp2_with fail
   exact relyE_done _ rfl rfl (Ext.refl _) hI
  refine stepsE_cons ?_ ?_
  ·intro listed vs W' hl hI hd hs hn hu hz
   refine hold ?_
   obtain ⟨x0, x1, x2, x3, x4, x5, x6, x7, x8, x9, x10, x11, x12, x13, x14, rfl⟩ := lenlit15 hl; clear hl
   simp only [factsL, atL, refV, List.getElem?_cons_succ, List.getElem?_cons_zero, List.getD_cons_succ, List.getD_cons_zero, RelL.one, RelL.any, RelL.blk, RelL.law, RPr, RRr, RTb] at hd
   obtain ⟨rfl, rfl, -⟩ := hd
   refine held ?_
   simp only [putAll, Act.put, List.setIfInBounds_toArray, List.set_cons_succ, List.set_cons_zero]
   have hrun := HLK.out W' (hx.trans hI)
   go_wp2_with fail
   exact relyE_done _ rfl rfl (Ext.refl _) hI
  refine stepsE_cons ?_ ?_
  ·intro listed vs W' hl hI hd hs hn hu hz
   refine hold ?_
   obtain ⟨x0, x1, x2, x3, x4, x5, x6, x7, x8, x9, x10, x11, x12, x13, x14, rfl⟩ := lenlit15 hl; clear hl
   refine held ?_
   simp only [putAll, Act.put, List.setIfInBounds_toArray, List.set_cons_succ, List.set_cons_zero]
   have hB9 := hB.ext hI
   have d0 := hB9.c 0 _ rfl
   have d1 := hB9.c 1 _ rfl
   have d2 := hB9.c 2 _ rfl
   have d3 := hB9.c 3 _ rfl
   have d4 := hB9.c 4 _ rfl
   go_wp2_with fail
   exact relyE_done _ rfl rfl (Ext.refl _) hI
  refine stepsE_cons ?_ ?_
  ·intro listed vs W' hl hI hd hs hn hu hz
   refine hold ?_
   obtain ⟨x0, x1, x2, x3, x4, x5, x6, x7, x8, x9, x10, x11, x12, x13, x14, rfl⟩ := lenlit15 hl; clear hl
   simp only [factsL, atL, refV, List.getElem?_cons_succ, List.getElem?_cons_zero, List.getD_cons_succ, List.getD_cons_zero, RelL.one, RelL.any, RelL.blk, RelL.law, RPr, RRr, RTb] at hd
   obtain ⟨rfl, rfl, -⟩ := hd
   refine held ?_
   simp only [putAll, Act.put, List.setIfInBounds_toArray, List.set_cons_succ, List.set_cons_zero]
   go_wp2_with (go_at_call 22; refine (HPV.out _ (hx.trans hI)).mono ?_; rintro e9 w9 ⟨pa, pn, pc, rfl, -, -, hx9⟩)
   exact relyE_done _ rfl ⟨pa, pn, pc, rfl⟩ hx9 (hI.trans hx9)
  refine stepsE_cons ?_ ?_
  ·intro listed vs W' hl hI hd hs hn hu hz
   refine hold ?_
   obtain ⟨x0, x1, x2, x3, x4, x5, x6, x7, x8, x9, x10, x11, x12, x13, x14, rfl⟩ := lenlit15 hl; clear hl
   simp only [factsL, atL, refV, List.getElem?_cons_succ, List.getElem?_cons_zero, List.getD_cons_succ, List.getD_cons_zero, RelL.one, RelL.any, RelL.blk, RelL.law, RPr, RRr, RTb] at hd
   obtain ⟨⟨pa, pn, pc, rfl⟩, -⟩ := hd
   refine held ?_
   simp only [putAll, Act.put, List.setIfInBounds_toArray, List.set_cons_succ, List.set_cons_zero]
   unfold rcV
   go_wp2_with fail
   exact relyE_done _ rfl ⟨pa, pn, pc, rfl⟩ (Ext.refl _) hI
  refine stepsE_cons ?_ ?_
  ·intro listed vs W' hl hI hd hs hn hu hz
   refine hold ?_
   obtain ⟨x0, x1, x2, x3, x4, x5, x6, x7, x8, x9, x10, x11, x12, x13, x14, rfl⟩ := lenlit15 hl; clear hl
   simp only [factsL, atL, refV, List.getElem?_cons_succ, List.getElem?_cons_zero, List.getD_cons_succ, List.getD_cons_zero, RelL.one, RelL.any, RelL.blk, RelL.law, RPr, RRr, RTb] at hd
   obtain ⟨⟨pa, pn, pc, rfl⟩, -⟩ := hd
   refine held ?_
   simp only [putAll, Act.put, List.setIfInBounds_toArray, List.set_cons_succ, List.set_cons_zero]
   unfold rcV
   go_wp2_with fail
   exact relyE_done _ rfl ⟨pa, pn, pc, rfl⟩ (Ext.refl _) hI
  refine stepsE_cons ?_ ?_
  ·intro listed vs W' hl hI hd hs hn hu hz
   refine hold ?_
   obtain ⟨x0, x1, x2, x3, x4, x5, x6, x7, x8, x9, x10, x11, x12, x13, x14, rfl⟩ := lenlit15 hl; clear hl
   simp only [factsL, atL, refV, List.getElem?_cons_succ, List.getElem?_cons_zero, List.getD_cons_succ, List.getD_cons_zero, RelL.one, RelL.any, RelL.blk, RelL.law, RPr, RRr, RTb] at hd
   obtain ⟨⟨pa, pn, pc, rfl⟩, -⟩ := hd
   refine held ?_
   simp only [putAll, Act.put, List.setIfInBounds_toArray, List.set_cons_succ, List.set_cons_zero]
   unfold rcV
   go_wp2_with fail
   exact relyE_done _ rfl rfl (Ext.refl _) hI
  refine stepsE_cons ?_ ?_
  ·intro listed vs W' hl hI hd hs hn hu hz
   refine hold ?_
   obtain ⟨x0, x1, x2, x3, x4, x5, x6, x7, x8, x9, x10, x11, x12, x13, x14, rfl⟩ := lenlit15 hl; clear hl
   refine held ?_
   simp only [putAll, Act.put, List.setIfInBounds_toArray, List.set_cons_succ, List.set_cons_zero]
   go_wp2_with fail
   exact relyE_done _ rfl ⟨_, _, _, _, _, _, _, _, _, _, _, rfl, hI.sz, Bk.new _ _ _⟩ ((Ext.refl _).alloc _) (hI.alloc _)
  refine stepsE_cons ?_ ?_
  ·intro listed vs W' hl hI hd hs hn hu hz
   refine hold ?_
   obtain ⟨x0, x1, x2, x3, x4, x5, x6, x7, x8, x9, x10, x11, x12, x13, x14, rfl⟩ := lenlit15 hl; clear hl
   simp only [factsL, atL, refV, List.getElem?_cons_succ, List.getElem?_cons_zero, List.getD_cons_succ, List.getD_cons_zero, RelL.one, RelL.any, RelL.blk, RelL.law, RPr, RRr, RTb] at hd
   obtain ⟨⟨pa, pn, pc, rfl⟩, ⟨b17, u0, u1, u2, u3, u4, u5, u6, u7, u8, u9, e5, hge5, hb17⟩, -⟩ := hd
   refine held ?_
   simp only [putAll, Act.put, List.setIfInBounds_toArray, List.set_cons_succ, List.set_cons_zero]
   subst e5
   unfold rcV
   have s0 := hb17.c 0 _ rfl
   have s1 := hb17.c 1 _ rfl
   have s2 := hb17.c 2 _ rfl
   have s3 := hb17.c 3 _ rfl
   have s4 := hb17.c 4 _ rfl
   have s5 := hb17.c 5 _ rfl
   have s6 := hb17.c 6 _ rfl
   have s7 := hb17.c 7 _ rfl
   have s8 := hb17.c 8 _ rfl
   have s9 := hb17.c 9 _ rfl
   have fz := hb17.free
   go_wp2_with fail
   exact relyE_store undef rfl trivial (by simp [World.setCell]) ⟨(fun _ _ h => h), (fun _ _ h => h), (fun _ _ h => h), (fun _ _ h => h), (fun _ _ h => h), (fun _ _ h => h), (fun _ _ h => h), (fun _ _ h => h), (fun _ _ h => h), (fun _ _ h => h), (fun _ _ h => h), (fun _ _ h => h), (fun _ _ h9 => keepTb h9 _ _ _ _ _ _ _ _ _ _ _), (fun _ _ h => h), (fun _ _ h => h), trivial⟩ (hI.set10 hge5 _ _ _ _ _ _ _ _ _ _)
  refine stepsE_cons ?_ ?_
  ·intro listed vs W' hl hI hd hs hn hu hz
   refine hold ?_
   obtain ⟨x0, x1, x2, x3, x4, x5, x6, x7, x8, x9, x10, x11, x12, x13, x14, rfl⟩ := lenlit15 hl; clear hl
   simp only [factsL, atL, refV, List.getElem?_cons_succ, List.getElem?_cons_zero, List.getD_cons_succ, List.getD_cons_zero, RelL.one, RelL.any, RelL.blk, RelL.law, RPr, RRr, RTb] at hd
   obtain ⟨rfl, -⟩ := hd
   refine held ?_
   simp only [putAll, Act.put, List.setIfInBounds_toArray, List.set_cons_succ, List.set_cons_zero]
   go_wp2_with fail
   exact relyE_done _ rfl rfl (Ext.refl _) hI
  exact trivial
 ·intro listed vs W' hl hall hI hd hn
  obtain ⟨x0, x1, x2, x3, x4, x5, x6, x7, x8, x9, x10, x11, x12, x13, x14, rfl⟩ := lenlit15 hl; clear hl
  simp only [List.length_cons, List.length_nil, List.range, List.range.loop, Nat.zero_add, Nat.reduceAdd, factsL, atL, refV, List.getElem?_cons_succ, List.getElem?_cons_zero, List.getD_cons_succ, List.getD_cons_zero, RelL.one, RelL.any, RelL.blk, RelL.law, RPr, RRr, RTb] at hd
  obtain ⟨rfl, rfl, rfl, rfl, rfl, rfl, rfl, rfl, ⟨pa, pn, pc, rfl⟩, ⟨pa, pn, pc, rfl⟩, ⟨pa, pn, pc, rfl⟩, rfl, ⟨b17, u0, u1, u2, u3, u4, u5, u6, u7, u8, u9, e5, hge5, hb17⟩, -, rfl, -⟩ := hd
  simp only [putAll, Act.put, List.setIfInBounds_toArray, List.set_cons_succ, List.set_cons_zero]
  go_wp2_with fail
  go_ret
  exact ⟨rfl, hx.trans hI⟩
theorem widx_none {b mb bx : Nat} {a : Option Addr} {n c : Nat} {os : List OfR} {es : Nat → List En} {ha : Option Addr} {hn hc : Nat} {hs : List Hd} {w : World} (H : Arc w b mb a n c os es ha hn hc hs) (hbx : w.cell? ⟨bx, 0, none⟩ = some (.pointer (some ⟨b, 0, none⟩))) (hh : ∀ k, k < hn → Held os es n (nthR hs k)) (ht : TB w) :
  Calls Tryz.prog 99 #[.slice ha hn hc, .func (.func 68) #[] #[.pointer (some ⟨bx, 0, none⟩)]] w fun e w' => e = .returned (.int .i64 (-1)) ∧ Ext w w' := by
 have bd := H.inn.hrow.bd
 have HS := Lib.hid H.inn.hrow
 have HK := Lib.hid (fun (k : Nat) (hk : k < hn) (W : World) (hx : Ext w W) => prv_no (H.ext hx) (hx.cell hbx) (nthR hs k) (H.inn.hrow.wfAt hk) (hh k hk) (ht.ext hx))
 clear H hh ht hbx
 go_enter Tryz.func99, Tryz.ntmps99
 go_wp2_with fail
 go_loopw [8] (fun i wr => ∃ (k : Nat), k ≤ hn ∧ i = .int .i64 k ∧ Hid (Ext w wr)) (fun i _ => hn - (intOf i).toNat)
 case atStart => exact ⟨0, by omega, rfl, Lib.hid (Ext.refl w)⟩
 case round =>
  obtain ⟨k, hk, rfl, hx⟩ := hrel
  by_cases hlt : k < hn
  ·obtain ⟨x1, o1, rfl, hc1⟩ := HS.out.at (by omega)
   have hr := rangeAt_ext (hc1 k hlt) hx.out
   rw [sz_hd] at hr
   have HC := Lib.hid (HK.out k hlt wr hx.out)
   clear hc1
   generalize nthR hs k = h at *
   unfold hdV at HC
   obtain ⟨d0, d1, d2, d3, d4⟩ := cells_hd hr
   clear hr
   go_wp2_with (go_at_call 68; refine HC.out.mono ?_; rintro e w2 ⟨rfl, hx2⟩; refine hold ?_)
   refine held ?_
   clear d0 d1 d2 d3 d4
   go_wp2_with fail
   refine ⟨⟨k + 1, by omega, by go_num, Lib.hid (hx.out.trans hx2)⟩, by simp only [intOf]; omega⟩
  ·obtain rfl : hn = k := by omega
   go_wp2_with fail
   go_ret
   exact ⟨rfl, hx.out⟩
theorem wcont_no {b mb bx : Nat} {a : Option Addr} {n c : Nat} {os : List OfR} {es : Nat → List En} {ha : Option Addr} {hn hc : Nat} {hs : List Hd} {w : World} (H : Arc w b mb a n c os es ha hn hc hs) (hbx : w.cell? ⟨bx, 0, none⟩ = some (.pointer (some ⟨b, 0, none⟩))) (hh : ∀ k, k < hn → Held os es n (nthR hs k)) (ht : TB w) :
  Calls Tryz.prog 67 #[.slice ha hn hc, .func (.func 68) #[] #[.pointer (some ⟨bx, 0, none⟩)]] w fun e w' => e = .returned (.bool false) ∧ Ext w w' := by
 have HI := Lib.hid (widx_none H hbx hh ht)
 clear H hbx hh ht
 go_enter Tryz.func67, Tryz.ntmps67
 go_wp2_with (go_at_call 99; refine HI.out.mono ?_; rintro e w1 ⟨rfl, hx1⟩)
 go_ret
 exact ⟨rfl, hx1⟩
theorem whole_yes {b mb : Nat} {a : Option Addr} {n c : Nat} {os : List OfR} {es : Nat → List En} {ha : Option Addr} {hn hc : Nat} {hs : List Hd} {w : World} (H : Arc w b mb a n c os es ha hn hc hs) (hh : ∀ k, k < hn → Held os es n (nthR hs k)) (ht : TB w) :
  Calls Tryz.prog 33 #[.pointer (some ⟨b, 0, none⟩)] w fun e w' => e = .returned (.bool true) ∧ Ext w w' := by
 have hB := Bk.new w 85 #[.pointer (some ⟨b, 0, none⟩)]
 have hx : Ext w (w.alloc (.cells #[.pointer (some ⟨b, 0, none⟩)] 85)) := (Ext.refl w).alloc _
 have c1 := (H.box.ext hx).c 1 _ rfl
 have HCT := Lib.hid (wcont_no (H.ext hx) (hB.c 0 _ rfl) hh (ht.ext hx))
 clear H hh ht
 go_enter Tryz.func33, Tryz.ntmps33
 go_upto_region 1 with fail
 generalize w.alloc (.cells #[.pointer (some ⟨b, 0, none⟩)] 85) = V at *
 obtain ⟨bx, hbx⟩ : ∃ b, w.heap.size = b := ⟨_, rfl⟩
 rw [hbx] at hB HCT ⊢
 clear hbx
 have c0 := hB.c 0 _ rfl
 go_wp2_with (go_at_call 67; refine HCT.out.mono ?_; rintro e w1 ⟨rfl, hx1⟩)
 go_ret
 exact ⟨rfl, hx.trans hx1⟩
end Go.Proofs.YtacicanjmleikaaGreatDoor
