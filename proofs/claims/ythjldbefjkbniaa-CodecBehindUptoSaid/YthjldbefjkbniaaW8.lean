import Derived.Test.YthjldbefjkbniaaW7
namespace Go.Proofs.Ythjldbefjkbniaa
open Go.RowKit Go.Sort Go.Shelf
set_option linter.unusedSimpArgs false
set_option linter.unusedVariables false
set_option maxRecDepth 100000

set_option maxHeartbeats 400000 in
theorem put2_any (a1 : Option Addr) (n1 c1 : Nat) (xs : List Int) (w : World) (h1 : Sl .i64 w a1 n1 c1 xs) (hs : n1 ≤ 1000) :
    Calls Try.prog 11 #[.slice a1 n1 c1] w fun e w' => ∃ g c, e = .returned (.tuple #[.slice (some ⟨g, 0, none⟩) (lput xs).length c, .int .i64 0]) ∧
      OwI .u8 5 w.heap.size w' (some ⟨g, 0, none⟩) (lput xs).length c (lput xs) ∧ Ext w w' := by
  have b1 := h1.bd
  have e1 := Lib.hid h1.hlen
  go_enter Try.func11, Try.ntmps11
  go_wp2_with (go_at_call 25; refine (put_any w.heap.size _ _ _ [] n1 _ (by omega) (OwI.nil _ _ _ _) (Nat.le_refl _) (by omega)).mono ?_; rintro e w1 ⟨g, c, rfl, ho1, hB1⟩)
  simp only [Nat.zero_add, List.nil_append] at ho1
  have hl1 := digs_num_len (n := n1) (by omega)
  have hq : Hid (digs (num xs.length) = digs (num n1)) := by have := e1.out; unfold Hid; rw [this]
  generalize digs (num n1) = ds at *
  go_loopw [4, 15] (fun o i wr => ∃ (k m g c : Nat) (ys : List Int), k ≤ n1 ∧ i = .int .i64 k ∧ o = .slice (some ⟨g, 0, none⟩) m c ∧ m = ys.length ∧ m ≤ 10 + 10 * k ∧ ys = ds ++ (xs.take k).flatMap (fun x => digs (num x)) ∧ OwI .u8 5 w.heap.size wr (some ⟨g, 0, none⟩) m c ys ∧ Ext w wr) (fun _ i _ => n1 - (intOf i).toNat)
  case atStart => exact ⟨0, ds.length, g, c, ds, by omega, rfl, rfl, rfl, by omega, by simp, ho1, hB1⟩
  case round =>
    obtain ⟨k, m, g, c, ys, hk, rfl, rfl, hm, hm2, hys, ho, hE⟩ := hrel
    have HM := Lib.hid hm
    have HY := Lib.hid hys
    clear hm hys
    by_cases hlt : k < n1
    · obtain ⟨x1, o1, rfl, hc1⟩ := h1.at (by omega)
      have g1 := hE.cell (hc1 k hlt)
      have w1 := wf_i64 (h1.wfAt hlt)
      have hl2 := digs_num_len w1
      clear hc1
      go_wp2_with (go_at_call 25; refine (put_any w.heap.size _ _ _ ys _ _ w1 ho hE.sz (by omega)).mono ?_; rintro e w2 ⟨g2, c2, rfl, ho2, hB2⟩)
      go_roundw
      case rel => exact ⟨k + 1, _, g2, c2, _, by omega, by go_num, rfl, by rw [List.length_append, HM.out], by omega, by rw [flatMap_take_succ (by rw [e1.out]; omega), ← List.append_assoc, ← HY.out], ho2, Below.trans hE hB2⟩
      case measure => simp [intOf]; omega
    · go_wp2
      go_ret2
      have hx : lput xs = ys := by rw [HY.out, lput, hq.out, List.take_of_length_le (by have := e1.out; omega)]
      rw [hx, ← HM.out]
      exact ⟨g, c, rfl, ho, hE⟩

theorem put2_big (a1 : Option Addr) (n1 c1 : Nat) (xs : List Int) (w : World) (h1 : Sl .i64 w a1 n1 c1 xs) (hs : 1000 < n1) :
    Calls Try.prog 11 #[.slice a1 n1 c1] w fun e w' => e = .returned (.tuple #[.slice none 0 0, .int .i64 2]) ∧ w = w' := by
  have b1 := h1.bd
  go_enter Try.func11, Try.ntmps11
  go_wp2
  go_ret2
  exact ⟨rfl, rfl⟩


def Boxed8 (wr : World) (b : Nat) : Prop := OwI .u8 47 b wr (some ⟨b, 0, none⟩) 8 8 (List.replicate 8 0)

theorem res8 (b base : Nat) (W : World) (x0 x1 x2 x3 x4 x5 x6 x7 : Int) (h : OwI .u8 47 base W (some ⟨b, 0, none⟩) 8 8 [x0, x1, x2, x3, x4, x5, x6, x7]) (tmps : Array Value) (ht : tmps[2]?.getD undef = .pointer (some ⟨b, 0, none⟩)) :
    (results Try.f27 tmps).run Try.prog W = .ok (.agg #[.int .u8 x0, .int .u8 x1, .int .u8 x2, .int .u8 x3, .int .u8 x4, .int .u8 x5, .int .u8 x6, .int .u8 x7]) W := by
  have f0 := h.cellAt (j := 0) (by omega)
  have f1 := h.cellAt (j := 1) (by omega)
  have f2 := h.cellAt (j := 2) (by omega)
  have f3 := h.cellAt (j := 3) (by omega)
  have f4 := h.cellAt (j := 4) (by omega)
  have f5 := h.cellAt (j := 5) (by omega)
  have f6 := h.cellAt (j := 6) (by omega)
  have f7 := h.cellAt (j := 7) (by omega)
  simp only [nth, List.getD_eq_getElem?_getD, List.getElem?_cons_zero, List.getElem?_cons_succ, Option.getD_some] at f0 f1 f2 f3 f4 f5 f6 f7
  simp [results, Try.results27, go_sem, ht, f0, f1, f2, f3, f4, f5, f6, f7]

set_option maxHeartbeats 400000 in
theorem sum8_any (a1 : Option Addr) (n1 c1 : Nat) (xs : List Int) (w : World) (h1 : Sl .u8 w a1 n1 c1 xs) :
    Calls Try.prog 27 #[.slice a1 n1 c1] w fun e w' => e = .returned (.agg #[.int .u8 (nth (dig8 xs) 0), .int .u8 (nth (dig8 xs) 1), .int .u8 (nth (dig8 xs) 2), .int .u8 (nth (dig8 xs) 3), .int .u8 (nth (dig8 xs) 4), .int .u8 (nth (dig8 xs) 5), .int .u8 (nth (dig8 xs) 6), .int .u8 (nth (dig8 xs) 7)]) ∧ Ext w w' := by
  have b1 := h1.bd
  have hd := fnv_bd xs
  unfold dig8
  obtain ⟨D, hD⟩ : ∃ D : Nat, fnv xs = (D : Int) := ⟨(fnv xs).toNat, by omega⟩
  have HD := Lib.hid hD
  have hDb : D < 18446744073709551616 := by omega
  go_enter Try.func27, Try.ntmps27
  go_wp2_with (go_at_call 36; refine (sum_any _ _ _ _ _ (h1.ext ((Ext.refl _).alloc _ |>.alloc _))).mono ?_; rintro e w' ⟨rfl, rfl⟩)
  go_loopw [4, 5] (fun i d wr => ∃ k m : Nat, k ≤ 8 ∧ i = .int .i64 (7 - k) ∧ d = .int .u64 m ∧ m < 18446744073709551616 ∧ m = D / 256 ^ k ∧ OwI .u8 47 w.heap.size wr (some ⟨w.heap.size + 1, 0, none⟩) 8 8 (List.replicate (8 - k) 0 ++ (be8 D).drop (8 - k)) ∧
    Boxed8 wr w.heap.size ∧ Ext w wr) (fun i _ _ => (intOf i + 1).toNat)
  case atStart =>
    refine ⟨0, D, by omega, rfl, rfl, hDb, by simp, ?_, ?_, ((Ext.refl w).alloc _).alloc _⟩
    · have := OwI.lit .u8 47 (base := w.heap.size) (w.alloc (.cells #[.int .u8 0, .int .u8 0, .int .u8 0, .int .u8 0, .int .u8 0, .int .u8 0, .int .u8 0, .int .u8 0] 47)) [0, 0, 0, 0, 0, 0, 0, 0] (by simp) (by unfold maxLen; simp) #[.int .u8 0, .int .u8 0, .int .u8 0, .int .u8 0, .int .u8 0, .int .u8 0, .int .u8 0, .int .u8 0] rfl
      simp only [World.size_alloc] at this
      exact this
    · have := OwI.lit .u8 47 (base := w.heap.size) w [0, 0, 0, 0, 0, 0, 0, 0] (Nat.le_refl _) (by unfold maxLen; simp) #[.int .u8 0, .int .u8 0, .int .u8 0, .int .u8 0, .int .u8 0, .int .u8 0, .int .u8 0, .int .u8 0] rfl
      exact this.ext ((Ext.refl _).alloc _)
  case round =>
    obtain ⟨k, m, hk, rfl, rfl, hm, hmk2, ho, hbx, hE⟩ := hrel
    have HM := Lib.hid hmk2
    clear hmk2
    by_cases hlt : k < 8
    · have hc := ho.cellAt (j := 7 - k) (by omega)
      have hf := ho.frozenAt (7 - k)
      have e7 : ((7 : Int) - k).toNat = 7 - k := by omega
      go_wp2
      go_roundw
      case rel =>
        refine ⟨k + 1, m / 256, by omega, by congr 1; omega, rfl, by omega, by rw [HM.out, Nat.div_div_eq_div_mul, ← Nat.pow_succ], ?_, ?_, hE.setCell (by simp) _⟩
        · have h3 := ho.set (7 - k) ((m % 256 : Nat) : Int)
          rw [set_rep k hlt, show ((m % 256 : Nat) : Int) = (((D / 256 ^ k) % 256 : Nat) : Int) by rw [HM.out], show List.replicate (7 - k) 0 = List.replicate (8 - (k + 1)) (0 : Int) by congr 1; omega, ← be8_step D k hlt, show (7 - k) = 8 - (k + 1) by omega] at h3
          rw [show ((m : Int) % 256) = ((m % 256 : Nat) : Int) by omega, show 7 - k = 8 - (k + 1) by omega, HM.out]
          exact h3
        · refine World.ownsRow.kept hbx (World.ownsRow.stored ho (7 - k) _).2 (.inr ?_)
          simp [Value.ownBlock]
      case measure => simp [intOf]; omega
    · obtain rfl : k = 8 := by omega
      simp only [Nat.sub_self, List.replicate_zero, List.nil_append, List.drop_zero] at ho
      have c0 := ho.cellAt (j := 0) (by omega)
      have c1' := ho.cellAt (j := 1) (by omega)
      have c2 := ho.cellAt (j := 2) (by omega)
      have c3 := ho.cellAt (j := 3) (by omega)
      have c4 := ho.cellAt (j := 4) (by omega)
      have c5 := ho.cellAt (j := 5) (by omega)
      have c6 := ho.cellAt (j := 6) (by omega)
      have c7 := ho.cellAt (j := 7) (by omega)
      have hbx' : OwI .u8 47 w.heap.size wr (some ⟨w.heap.size, 0, none⟩) 8 8 (List.replicate 8 0) := hbx
      have d0 := hbx'.cellAt (j := 0) (by omega)
      have d1 := hbx'.cellAt (j := 1) (by omega)
      have d2 := hbx'.cellAt (j := 2) (by omega)
      have d3 := hbx'.cellAt (j := 3) (by omega)
      have d4 := hbx'.cellAt (j := 4) (by omega)
      have d5 := hbx'.cellAt (j := 5) (by omega)
      have d6 := hbx'.cellAt (j := 6) (by omega)
      have d7 := hbx'.cellAt (j := 7) (by omega)
      have ff := hbx'.frozenAt
      go_wp2
      have hfin : OwI .u8 47 w.heap.size _ (some ⟨w.heap.size, 0, none⟩) 8 8 [nth (be8 D) 0, nth (be8 D) 1, nth (be8 D) 2, nth (be8 D) 3, nth (be8 D) 4, nth (be8 D) 5, nth (be8 D) 6, nth (be8 D) 7] := ((((((((hbx'.set 0 (nth (be8 D) 0)).set 1 (nth (be8 D) 1)).set 2 (nth (be8 D) 2)).set 3 (nth (be8 D) 3)).set 4 (nth (be8 D) 4)).set 5 (nth (be8 D) 5)).set 6 (nth (be8 D) 6)).set 7 (nth (be8 D) 7))
      have hEf := ((((((((hE.setCell (p := ⟨w.heap.size, 0, none⟩) (Nat.le_refl _) (.int .u8 (nth (be8 D) 0))).setCell (p := ⟨w.heap.size, 1, none⟩) (Nat.le_refl _) (.int .u8 (nth (be8 D) 1))).setCell (p := ⟨w.heap.size, 2, none⟩) (Nat.le_refl _) (.int .u8 (nth (be8 D) 2))).setCell (p := ⟨w.heap.size, 3, none⟩) (Nat.le_refl _) (.int .u8 (nth (be8 D) 3))).setCell (p := ⟨w.heap.size, 4, none⟩) (Nat.le_refl _) (.int .u8 (nth (be8 D) 4))).setCell (p := ⟨w.heap.size, 5, none⟩) (Nat.le_refl _) (.int .u8 (nth (be8 D) 5))).setCell (p := ⟨w.heap.size, 6, none⟩) (Nat.le_refl _) (.int .u8 (nth (be8 D) 6))).setCell (p := ⟨w.heap.size, 7, none⟩) (Nat.le_refl _) (.int .u8 (nth (be8 D) 7)))
      exact bodyPost_ret (res8 _ _ _ _ _ _ _ _ _ _ _ hfin _ rfl) rfl ⟨by rw [HD.out]; rfl, hEf⟩

set_option maxHeartbeats 400000 in
theorem frame_any (a1 : Option Addr) (n1 c1 : Nat) (xs : List Int) (w : World) (h1 : Sl .i64 w a1 n1 c1 xs) (hs : n1 ≤ 1000) :
    Calls Try.prog 14 #[.slice a1 n1 c1] w fun e w' => ∃ g c, e = .returned (.tuple #[.slice (some ⟨g, 0, none⟩) (lframe xs).length c, .int .i64 0]) ∧
      OwI .u8 5 w.heap.size w' (some ⟨g, 0, none⟩) (lframe xs).length c (lframe xs) ∧ Ext w w' := by
  have b1 := h1.bd
  have hll := lput_len h1.wf (by rw [h1.hlen]; omega)
  rw [h1.hlen] at hll
  have hwf := Lib.hid (lput_wf xs)
  have hfr : Hid (lframe xs = len3 (lput xs).length ++ lput xs ++ dig8 (len3 (lput xs).length ++ lput xs)) := rfl
  have hlw := Lib.hid (len3_wf (lput xs).length)
  go_enter Try.func14, Try.ntmps14
  go_wp2_with fail
  refine (put2_any _ _ _ xs _ h1 hs).mono ?_
  rintro e w1 ⟨g, c, rfl, ho1, hE1⟩
  generalize lput xs = B at *
  have hsz := hE1.sz
  have hlit : OwI .u8 5 w.heap.size (w1.alloc (.cells #[.int .u8 ((B.length : Int) / 65536), .int .u8 ((B.length : Int) / 256), .int .u8 ((B.length : Int) % 256)] 5)) (some ⟨w1.heap.size, 0, none⟩) 3 3 (len3 B.length) := by
    refine OwI.lit .u8 5 w1 (len3 B.length) hsz (by simp [maxLen, len3]) _ ?_
    have e1 : B.length / 65536 % 256 = B.length / 65536 := by omega
    have e2 : B.length / 256 % 256 = B.length / 256 := by omega
    simp [len3, e1, e2]
  have hB := (ho1.sl hwf.out).ext ((Ext.refl w1).alloc (.cells #[.int .u8 ((B.length : Int) / 65536), .int .u8 ((B.length : Int) / 256), .int .u8 ((B.length : Int) % 256)] 5))
  have hbw := Lib.hid (Below.alloc hE1 (by omega) (.cells #[.int .u8 ((B.length : Int) / 65536), .int .u8 ((B.length : Int) / 256), .int .u8 ((B.length : Int) % 256)] 5))
  generalize len3 B.length = H3 at *
  go_wp2_with (at_builtin; refine appS el_u8 rfl _ _ rfl _ w.heap.size _ 3 3 _ rfl hlit _ _ _ B rfl hB (by omega) (by simp; omega) (by unfold maxLen; omega) (by omega) ?_; intro g2 c2 w2 ho2 hB2)
  have hE2 : Ext w w2 := Below.trans hbw.out hB2
  have hw2 := Lib.hid (app_wf hlw.out hwf.out)
  have hl3 := ho2.hlen
  generalize hq : H3 ++ B = O at *
  have HQ := Lib.hid hq
  clear hq
  refine (sum8_any _ _ _ O _ (ho2.sl hw2.out)).mono ?_
  rintro e w3 ⟨rfl, hE3⟩
  have ho2' := ho2.ext hE3
  have hE13 : Ext w w3 := hE2.trans hE3
  have hsz3 := hE13.sz
  have hD : Sl .u8 (w3.alloc (.cells #[.int .u8 (nth (dig8 O) 0), .int .u8 (nth (dig8 O) 1), .int .u8 (nth (dig8 O) 2), .int .u8 (nth (dig8 O) 3), .int .u8 (nth (dig8 O) 4), .int .u8 (nth (dig8 O) 5), .int .u8 (nth (dig8 O) 6), .int .u8 (nth (dig8 O) 7)] 47)) (some ⟨w3.heap.size, 0, none⟩) 8 8 (dig8 O) :=
    (OwI.lit .u8 47 w3 (dig8 O) (Nat.le_refl _) (by simp [dig8_len, maxLen]) _ rfl).sl (be8_wf _)
  have hE3b : Ext w (w3.alloc (.cells #[.int .u8 (nth (dig8 O) 0), .int .u8 (nth (dig8 O) 1), .int .u8 (nth (dig8 O) 2), .int .u8 (nth (dig8 O) 3), .int .u8 (nth (dig8 O) 4), .int .u8 (nth (dig8 O) 5), .int .u8 (nth (dig8 O) 6), .int .u8 (nth (dig8 O) 7)] 47)) := hE13.alloc _
  have ho2b := ho2'.ext ((Ext.refl w3).alloc (.cells #[.int .u8 (nth (dig8 O) 0), .int .u8 (nth (dig8 O) 1), .int .u8 (nth (dig8 O) 2), .int .u8 (nth (dig8 O) 3), .int .u8 (nth (dig8 O) 4), .int .u8 (nth (dig8 O) 5), .int .u8 (nth (dig8 O) 6), .int .u8 (nth (dig8 O) 7)] 47))
  have hE3b' := Lib.hid hE3b
  clear hE3b
  go_wp2_with (at_builtin; refine appS el_u8 rfl _ _ rfl _ w.heap.size _ _ _ _ rfl ho2b _ _ _ (dig8 O) rfl hD (by omega) (by simp; omega) (by unfold maxLen; omega) (by omega) ?_; intro g4 c4 w4 ho4 hB4)
  go_ret2
  have hfin : lframe xs = O ++ dig8 O := by rw [hfr.out]
  rw [hfin]
  have hl : (O ++ dig8 O).length = 3 + B.length + 8 := by rw [List.length_append, dig8_len, hl3]
  rw [hl]
  exact ⟨g4, c4, rfl, ho4, Below.trans hE3b'.out hB4⟩

set_option maxHeartbeats 400000 in
theorem frame_big (a1 : Option Addr) (n1 c1 : Nat) (xs : List Int) (w : World) (h1 : Sl .i64 w a1 n1 c1 xs) (hs : 1000 < n1) :
    Calls Try.prog 14 #[.slice a1 n1 c1] w fun e w' => e = .returned (.tuple #[.slice none 0 0, .int .i64 2]) ∧ w = w' := by
  have b1 := h1.bd
  go_enter Try.func14, Try.ntmps14
  go_wp2_with (go_at_call 11; refine (put2_big _ _ _ xs _ h1 hs).mono ?_; rintro e w1 ⟨rfl, rfl⟩)
  go_ret2
  exact ⟨rfl, rfl⟩

end Go.Proofs.Ythjldbefjkbniaa
