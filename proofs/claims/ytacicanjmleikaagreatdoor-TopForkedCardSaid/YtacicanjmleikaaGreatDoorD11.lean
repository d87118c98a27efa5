/-
  digest.text onto a full row that is not the call's own, digest.Next and digest.Pair, walked.
-/
import Derived.Test.YtacicanjmleikaaGreatDoorD10
import Derived.Laws.CopyOwn
namespace Go.Proofs.YtacicanjmleikaaGreatDoor
open Go.RowKit Go.Sort
set_option linter.unusedSimpArgs false
set_option linter.unusedVariables false
set_option maxRecDepth 100000

set_option maxHeartbeats 1000000 in
theorem dtext_full (b off n0 : Nat) (zs : List Int) (a1 : Option Addr) (n1 c1 : Nat) (xs : List Int) (w : World) (h0 : Sl .u8 w (some ⟨b, off, none⟩) n0 n0 zs) (hn0 : n0 ≤ 1000) (h1 : Sl .i64 w a1 n1 c1 xs) (hs : n1 ≤ 1000)
    (htab : Lib.TabBelow Tryz.prog w.heap.size w "internal/strconv.uint64pow10" .u64 Lib.pow10Tab) :
    Calls Tryz.prog 110 #[.slice (some ⟨b, off, none⟩) n0 n0, .slice a1 n1 c1] w fun e w' => ∃ a' c', e = .returned (.slice a' (n0 + (txt xs).length) c') ∧ Sl .u8 w' a' (n0 + (txt xs).length) c' (zs ++ txt xs) ∧ Ext w w' := by
  have b1 := h1.bd
  have e1 := Lib.hid h1.hlen
  go_enter Tryz.func110, Tryz.ntmps110
  have HT := Lib.hid htab
  clear htab
  go_wp2_with fail
  go_loopw [0, 9] (fun o i wr => ∃ (k m c : Nat) (a : Option Addr) (ys : List Int), k ≤ n1 ∧ i = .int .i64 k ∧ o = .slice a m c ∧ m = ys.length ∧ m ≤ n0 + 22 * k ∧ ys = zs ++ txt (xs.take k) ∧ Ext w wr ∧
      ((k = 0 ∧ a = some ⟨b, off, none⟩ ∧ c = n0) ∨ (0 < k ∧ OwI .u8 5 w.heap.size wr a m c ys))) (fun _ i _ => n1 - (intOf i).toNat)
  case atStart => exact ⟨0, n0, n0, _, zs, by omega, rfl, rfl, h0.hlen.symm, by omega, by simp [txt], Ext.refl w, .inl ⟨rfl, rfl, rfl⟩⟩
  case round =>
    obtain ⟨k, m, c, a, ys, hk, rfl, rfl, hm, hm2, hys, hE, hcase⟩ := hrel
    have HM := Lib.hid hm
    have HY := Lib.hid hys
    have HC := Lib.hid hcase
    clear hm hys hcase
    have hBr := hE.sz
    by_cases hlt : k < n1
    · obtain ⟨x1, o1, rfl, hc1⟩ := h1.at (by omega)
      have g1 := hE.cell (hc1 k hlt)
      have w1 := wf_i64 (h1.wfAt hlt)
      have hl2 := dec_le w1
      have hcall : Calls Tryz.prog 114 #[.slice a m c, .int .i64 (nth xs k), .int .i64 10] wr fun e w' => ∃ a' c', e = .returned (.slice a' (m + (dec (nth xs k)).length) c') ∧ OwI .u8 5 w.heap.size w' a' (m + (dec (nth xs k)).length) c' (ys ++ dec (nth xs k)) ∧ Below w.heap.size wr w' := by
        rcases HC.out with ⟨h2, h3, h4⟩ | ⟨h2, h3⟩
        · subst h2; subst h3; subst h4
          have h5 : ys = zs := by rw [HY.out]; simp [txt]
          subst h5
          obtain rfl : m = c := by rw [HM.out]; exact h0.hlen
          have htab2 : Lib.TabBelow Tryz.prog wr.heap.size wr "internal/strconv.uint64pow10" .u64 Lib.pow10Tab := fun w' h => (HT.out.on hE) w' (Below.mono h hBr)
          refine (appendInt_full _ w1.1 w1.2 b off _ ys wr (h0.ext hE) (by omega) htab2).mono ?_
          rintro e w' ⟨a', c', rfl, ho, hx⟩
          exact ⟨a', c', rfl, ho.mono hBr, Below.mono hx hBr⟩
        · exact appendInt_any w.heap.size _ w1.1 w1.2 a m c ys wr h3 hBr (by omega) (HT.out.on hE)
      have HCall := Lib.hid hcall
      clear hcall
      clear hc1
      go_wp2_with (go_at_call 114; refine HCall.out.mono ?_; rintro e w2 ⟨g2, c2, rfl, ho2, hB2⟩; refine hold ?_)
      refine held ?_
      have hB2' : w.heap.size ≤ w2.heap.size := Nat.le_trans hBr hB2.size
      go_wp2_with (at_builtin; refine app1 el_u8 rfl _ _ rfl _ w.heap.size _ _ _ _ 32 rfl ho2 rfl hB2' (by unfold maxLen; omega) (by omega) ?_; intro g3 c3 w3 ho3 hB3)
      go_roundw
      case rel => exact ⟨k + 1, _, c3, _, _, by omega, by go_num, rfl, by rw [List.length_append, List.length_append, HM.out]; rfl, by omega, by rw [txt, fm_take_succ (by rw [e1.out]; omega), ← List.append_assoc, ← List.append_assoc, HY.out, txt], Below.trans hE (Below.trans hB2 hB3), .inr ⟨by omega, ho3⟩⟩
      case measure => simp [intOf]; omega
    · go_wp2
      go_ret
      have hx : zs ++ txt xs = ys := by rw [HY.out, List.take_of_length_le (by have := e1.out; omega)]
      have hy : n0 + (txt xs).length = m := by rw [HM.out, ← hx, List.length_append, h0.hlen]
      rw [hx, hy]
      refine ⟨a, c, rfl, ?_, hE⟩
      rcases HC.out with ⟨h2, h3, h4⟩ | ⟨h2, h3⟩
      · subst h2; subst h3; subst h4
        have h5 : ys = zs := by rw [HY.out]; simp [txt]
        subst h5
        obtain rfl : m = c := by rw [HM.out]; exact h0.hlen
        exact h0.ext hE
      · refine h3.sl fun x hxm => ?_
        rw [← hx] at hxm
        exact (List.mem_append.1 hxm).elim (h0.wf x) (txt_wf xs x)

theorem be8_len (n : Nat) : (be8 n).length = 8 := rfl

theorem octets_lit (n : Int) (hn : 0 ≤ n ∧ n ≤ 18446744073709551615) (w : World) :
    Calls Tryz.prog 96 #[.int .u64 n] w fun e w' => ∃ y0 y1 y2 y3 y4 y5 y6 y7 : Int, be8 n.toNat = [y0, y1, y2, y3, y4, y5, y6, y7] ∧ e = .returned (.agg #[.int .u8 y0, .int .u8 y1, .int .u8 y2, .int .u8 y3, .int .u8 y4, .int .u8 y5, .int .u8 y6, .int .u8 y7]) ∧ Ext w w' :=
  (octets_any n hn w).mono fun e w' ⟨h, hE⟩ => ⟨_, _, _, _, _, _, _, _, rfl, by rw [h]; rfl, hE⟩

theorem sl8_of_block {W : World} {b : Nat} {T : TypeId} {y0 y1 y2 y3 y4 y5 y6 y7 : Int} {n : Nat} (hy : be8 n = [y0, y1, y2, y3, y4, y5, y6, y7])
    (hb : W.heap[b]? = some (.cells #[.int .u8 y0, .int .u8 y1, .int .u8 y2, .int .u8 y3, .int .u8 y4, .int .u8 y5, .int .u8 y6, .int .u8 y7] T (0, 0))) : Sl .u8 W (some ⟨b, 0, none⟩) 8 8 (be8 n) := by
  refine ⟨rfl, Nat.le_refl _, by unfold maxLen; omega, fun i hi => ⟨b, 0, rfl, ?_⟩, be8_wf n⟩
  rw [hy]
  rw [cell_of_row W b (0 + i) _ _ _ hb]
  match i, hi with
  | 0, _ => rfl
  | 1, _ => rfl
  | 2, _ => rfl
  | 3, _ => rfl
  | 4, _ => rfl
  | 5, _ => rfl
  | 6, _ => rfl
  | 7, _ => rfl

theorem dnext_any (d : Int) (hd : 0 ≤ d ∧ d ≤ 18446744073709551615) (a1 : Option Addr) (n1 c1 : Nat) (xs : List Int) (w : World) (h1 : Sl .i64 w a1 n1 c1 xs) (hs : n1 ≤ 1000)
    (htab : Lib.TabBelow Tryz.prog w.heap.size w "internal/strconv.uint64pow10" .u64 Lib.pow10Tab) :
    Calls Tryz.prog 104 #[.int .u64 d, .slice a1 n1 c1] w fun e w' => e = .returned (.int .u64 (fnv (be8 d.toNat ++ txt xs))) ∧ Ext w w' := by
  have b1 := h1.bd
  go_enter Tryz.func104, Tryz.ntmps104
  go_wp2_with fail
  refine (octets_lit d hd _).mono ?_
  rintro e w1 ⟨y0, y1, y2, y3, y4, y5, y6, y7, hy, rfl, hE1⟩
  go_wp2_with fail
  have hE2 : Ext w (w1.alloc (.cells #[.int .u8 y0, .int .u8 y1, .int .u8 y2, .int .u8 y3, .int .u8 y4, .int .u8 y5, .int .u8 y6, .int .u8 y7] 155)) := hE1.alloc _
  have hs8 := sl8_of_block hy (World.alloc_heap_new w1 (.cells #[.int .u8 y0, .int .u8 y1, .int .u8 y2, .int .u8 y3, .int .u8 y4, .int .u8 y5, .int .u8 y6, .int .u8 y7] 155))
  clear hy
  generalize w1.heap.size = g at hs8 ⊢
  generalize (w1.alloc (.cells #[.int .u8 y0, .int .u8 y1, .int .u8 y2, .int .u8 y3, .int .u8 y4, .int .u8 y5, .int .u8 y6, .int .u8 y7] 155)) = w2 at hE2 hs8 ⊢
  have htab2 : Lib.TabBelow Tryz.prog w2.heap.size w2 "internal/strconv.uint64pow10" .u64 Lib.pow10Tab := fun w' h => (htab.on hE2) w' (Below.mono h hE2.sz)
  refine (dtext_full g 0 8 _ a1 n1 c1 xs w2 hs8 (by omega) (h1.ext hE2) hs htab2).mono ?_
  rintro e w3 ⟨a', c', rfl, hsl, hE3⟩
  go_wp2_with (go_at_call 97; refine (sum_any _ _ _ _ _ hsl).mono ?_; rintro e w4 ⟨rfl, rfl⟩)
  go_ret
  exact ⟨rfl, hE2.trans hE3⟩

theorem sl_of_block {W : World} {b : Nat} {T : TypeId} {xs : List Int} {n : Nat} (hn : xs.length = n) (hm : n ≤ maxLen) (hw : ∀ x ∈ xs, (Lit.int .u8 x).wf = true)
    (hb : W.heap[b]? = some (.cells (xs.map (Value.int .u8)).toArray T (0, 0))) : Sl .u8 W (some ⟨b, 0, none⟩) n n xs := by
  refine ⟨hn, Nat.le_refl _, hm, fun i hi => ⟨b, 0, rfl, ?_⟩, hw⟩
  rw [cell_of_row W b (0 + i) _ _ _ hb]
  have h : i < xs.length := by omega
  simp [nth, List.getD_eq_getElem?_getD, h]

theorem block_at {W : World} {b : Nat} {T : TypeId} {xs : List Int} (hb : W.heap[b]? = some (.cells (xs.map (Value.int .u8)).toArray T (0, 0))) : ∀ j v, (xs.map (Value.int .u8))[j]? = some v → W.cell? ((⟨b, 0, none⟩ : Addr).add j) = some v := by
  intro j v hj
  rw [Lib.add_plain, cell_of_row W b (0 + j) _ _ _ hb]
  simpa using hj

theorem oneCell_ints (xs : List Int) : ∀ v ∈ xs.map (Value.int .u8), v.oneCell' = true := by
  intro v hv
  simp only [List.mem_map] at hv
  obtain ⟨x, _, rfl⟩ := hv
  simp [Value.oneCell']

/-- 'copy(d, s)', d within a block that is known whole, s shorter. -/
theorem copyI {P : Program} {k : IntKind} {ops : Array Oper} {rest : List Oper} {o : Oper} {a : Act} {Q : Exit → Act → World → Prop} (hgd : o.guard = none) (d s : Operand) (T E : TypeId)
    (ho : o.op = .call { callee := .builtin .copy, args := #[d, s], argTypes := #[T, T] }) (hT : P.underlying T = some (.slice E)) (hsz : (P.info? E).map (·.size) = some 1) (w : World)
    (g off dLen dCap b so m sc : Nat) (cur ys : List Int) (t : TypeId) (hd : a.eval d = .slice (some ⟨g, off, none⟩) dLen dCap) (hs : a.eval s = .slice (some ⟨b, so, none⟩) m sc)
    (hg : w.heap[g]? = some (.cells (cur.map (Value.int k)).toArray t (0, 0))) (hsrc : Sl k w (some ⟨b, so, none⟩) m sc ys) (hm : m ≤ dLen) (hfit : off + m ≤ cur.length)
    (h : ∀ w', w'.heap[g]? = some (.cells ((cur.take off ++ (ys ++ cur.drop (off + m))).map (Value.int k)).toArray t (0, 0)) → (∀ b, b ≠ g → w'.heap[b]? = w.heap[b]?) → Below g w w' → wpList P ops Q rest (a.put o.dst (.int .i64 m)) w') :
    wpList P ops Q (o :: rest) a w := by
  have hl := hsrc.hlen
  refine wpList_copy_own hgd d s T T ho E hT hsz g off dLen dCap ⟨b, so, none⟩ m sc hd hs _ t hg (ys.map (Value.int k)) (by simp only [List.length_map, hl]; exact (Nat.min_eq_left hm).symm) hsrc.cellsAt (by simp [hl]; omega) ?_ ?_
  · intro v hv
    simp only [List.mem_map] at hv
    obtain ⟨x, _, rfl⟩ := hv
    simp [Value.oneCell']
  · have h1 := setRow_heap w g _ ((List.take off (List.map (Value.int k) cur).toArray.toList ++ (List.map (Value.int k) ys ++ List.drop (off + (List.map (Value.int k) ys).length) (List.map (Value.int k) cur).toArray.toList)).toArray) t _ hg
    have h2 := h _ (by rw [h1]; simp [hl]) (fun b hb => setRow_other w g b _ hb) (below_setRow (Below.refl g w) (Nat.le_refl _) _)
    rw [show goInt ((List.map (Value.int k) ys).length : Int) = .int .i64 m by simp [goInt, hl]]
    exact h2

theorem dpair_any (d b : Int) (hd : 0 ≤ d ∧ d ≤ 18446744073709551615) (hb : 0 ≤ b ∧ b ≤ 18446744073709551615) (w : World) :
    Calls Tryz.prog 63 #[.int .u64 d, .int .u64 b] w fun e w' => e = .returned (.int .u64 (fnv (1 :: be8 d.toNat ++ be8 b.toNat))) ∧ Ext w w' := by
  go_enter Tryz.func63, Tryz.ntmps63
  go_wp2_with fail
  refine (octets_lit d hd _).mono ?_
  rintro e w1 ⟨y0, y1, y2, y3, y4, y5, y6, y7, hy, rfl, hE1⟩
  go_wp2_with fail
  refine (octets_lit b hb _).mono ?_
  rintro e w2 ⟨z0, z1, z2, z3, z4, z5, z6, z7, hz, rfl, hE2⟩
  go_wp2_with fail
  have hG : ((w2.alloc (.cells #[.int .u8 y0, .int .u8 y1, .int .u8 y2, .int .u8 y3, .int .u8 y4, .int .u8 y5, .int .u8 y6, .int .u8 y7] 155)).alloc (.cells #[.int .u8 z0, .int .u8 z1, .int .u8 z2, .int .u8 z3, .int .u8 z4, .int .u8 z5, .int .u8 z6, .int .u8 z7] 155)).heap[w.heap.size]? = some (.cells (([1, 0, 0, 0, 0, 0, 0, 0, 0, 0, 0, 0, 0, 0, 0, 0, 0] : List Int).map (Value.int .u8)).toArray 154 (0, 0)) :=
    (((((Ext.refl w2).alloc _).alloc _).block _ (by have := hE1.sz; have := hE2.sz; simp at *; omega)).trans ((hE1.trans hE2).block _ (by simp))).trans (World.alloc_heap_new w _)
  have hX : ((w2.alloc (.cells #[.int .u8 y0, .int .u8 y1, .int .u8 y2, .int .u8 y3, .int .u8 y4, .int .u8 y5, .int .u8 y6, .int .u8 y7] 155)).alloc (.cells #[.int .u8 z0, .int .u8 z1, .int .u8 z2, .int .u8 z3, .int .u8 z4, .int .u8 z5, .int .u8 z6, .int .u8 z7] 155)).heap[w2.heap.size]? = some (.cells ((be8 d.toNat).map (Value.int .u8)).toArray 155 (0, 0)) := by
    rw [hy]; exact (((Ext.refl _).alloc _).block _ (by simp)).trans (World.alloc_heap_new w2 _)
  have hY : ((w2.alloc (.cells #[.int .u8 y0, .int .u8 y1, .int .u8 y2, .int .u8 y3, .int .u8 y4, .int .u8 y5, .int .u8 y6, .int .u8 y7] 155)).alloc (.cells #[.int .u8 z0, .int .u8 z1, .int .u8 z2, .int .u8 z3, .int .u8 z4, .int .u8 z5, .int .u8 z6, .int .u8 z7] 155)).heap[w2.heap.size + 1]? = some (.cells ((be8 b.toNat).map (Value.int .u8)).toArray 155 (0, 0)) := by
    rw [hz]; have := World.alloc_heap_new (w2.alloc (.cells #[.int .u8 y0, .int .u8 y1, .int .u8 y2, .int .u8 y3, .int .u8 y4, .int .u8 y5, .int .u8 y6, .int .u8 y7] 155)) (.cells #[.int .u8 z0, .int .u8 z1, .int .u8 z2, .int .u8 z3, .int .u8 z4, .int .u8 z5, .int .u8 z6, .int .u8 z7] 155)
    simpa using this
  have hE3 : Ext w ((w2.alloc (.cells #[.int .u8 y0, .int .u8 y1, .int .u8 y2, .int .u8 y3, .int .u8 y4, .int .u8 y5, .int .u8 y6, .int .u8 y7] 155)).alloc (.cells #[.int .u8 z0, .int .u8 z1, .int .u8 z2, .int .u8 z3, .int .u8 z4, .int .u8 z5, .int .u8 z6, .int .u8 z7] 155)) :=
    ((((Ext.refl w).alloc _).trans (hE1.trans hE2)).alloc _).alloc _
  have hgx : w.heap.size < w2.heap.size := by have := (hE1.trans hE2).sz; simp at this; omega
  generalize ((w2.alloc (.cells #[.int .u8 y0, .int .u8 y1, .int .u8 y2, .int .u8 y3, .int .u8 y4, .int .u8 y5, .int .u8 y6, .int .u8 y7] 155)).alloc (.cells #[.int .u8 z0, .int .u8 z1, .int .u8 z2, .int .u8 z3, .int .u8 z4, .int .u8 z5, .int .u8 z6, .int .u8 z7] 155)) = W at hG hX hY hE3 ⊢
  clear hE1 hE2 hy hz
  generalize w2.heap.size = gx at hX hY hgx ⊢
  refine region_tail 2 (by kernel_rfl) (by kernel_rfl) ?_
  simp only [List.take_succ_cons, List.take_zero, List.drop_succ_cons, List.drop_zero]
  repeat (go_big_quiet_step (fail))
  refine wpQuiet_nil ?_
  intro W1 hE4
  have G1 := (hE4.block _ (lt_of_block hG)).trans hG
  have X1 := (hE4.block _ (lt_of_block hX)).trans hX
  have Y1 := (hE4.block _ (lt_of_block hY)).trans hY
  have hE5 := hE3.trans hE4
  clear hE3 hE4 hG hX hY
  refine copyI rfl _ _ _ 5 rfl (by kernel_rfl) (by kernel_rfl) W1 w.heap.size 1 16 16 gx 0 8 8 _ _ _ rfl rfl G1 (sl_of_block (be8_len _) (by unfold maxLen; omega) (be8_wf _) X1) (by omega) (by simp) ?_
  intro W2 G2 hO2 hB2
  have Y2 := (hO2 _ (by omega)).trans Y1
  have hE6 : Ext w W2 := Below.trans hE5 hB2
  clear hO2 hB2 G1 X1 Y1 hE5
  refine wpList_nil ?_
  simp only [Act.put, List.setIfInBounds_toArray, List.set_cons_succ, List.set_cons_zero]
  go_wp2_with fail
  refine region_tail 2 (by kernel_rfl) (by kernel_rfl) ?_
  simp only [List.take_succ_cons, List.take_zero, List.drop_succ_cons, List.drop_zero]
  repeat (go_big_quiet_step (fail))
  refine wpQuiet_nil ?_
  intro W3 hE7
  have G3 := (hE7.block _ (lt_of_block G2)).trans G2
  have Y3 := (hE7.block _ (lt_of_block Y2)).trans Y2
  have hE8 := hE6.trans hE7
  clear hE6 hE7 G2 Y2
  refine copyI rfl _ _ _ 5 rfl (by kernel_rfl) (by kernel_rfl) W3 w.heap.size 9 8 8 (gx + 1) 0 8 8 _ _ _ rfl rfl G3 (sl_of_block (be8_len _) (by unfold maxLen; omega) (be8_wf _) Y3) (by omega) (by simp [be8_len]) ?_
  intro W4 G4 hO4 hB4
  have hE9 : Ext w W4 := Below.trans hE8 hB4
  clear hO4 hB4 G3 Y3 hE8
  refine wpList_nil ?_
  have hfin : Sl .u8 W4 (some ⟨w.heap.size, 0, none⟩) 17 17 (1 :: be8 d.toNat ++ be8 b.toNat) := by
    refine sl_of_block (T := 154) (by simp [be8_len]) (by unfold maxLen; omega) (fun x hx => ?_) ?_
    · exact (List.mem_append.1 hx).elim (fun hx => (List.mem_cons.1 hx).elim (fun hx => by subst hx; decide) (be8_wf _ x)) (be8_wf _ x)
    · exact G4
  clear G4
  simp only [Act.put, List.setIfInBounds_toArray, List.set_cons_succ, List.set_cons_zero]
  go_wp2_with (go_at_call 97; refine (sum_any _ _ _ _ _ hfin).mono ?_; rintro e w4 ⟨rfl, rfl⟩)
  go_ret
  exact ⟨rfl, hE9⟩
end Go.Proofs.YtacicanjmleikaaGreatDoor
