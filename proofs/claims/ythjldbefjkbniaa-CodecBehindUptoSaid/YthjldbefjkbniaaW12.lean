import Derived.Test.YthjldbefjkbniaaW11
namespace Go.Proofs.Ythjldbefjkbniaa
open Go.RowKit Go.Sort Go.Shelf
set_option linter.unusedSimpArgs false
set_option linter.unusedVariables false
set_option maxRecDepth 100000

set_option maxHeartbeats 400000 in
theorem eqArr8 (w : World) (a0 a1 a2 a3 a4 a5 a6 a7 b0 b1 b2 b3 b4 b5 b6 b7 : Int) :
    (Op.equalIn 10000 47 (.agg #[.int .u8 a0, .int .u8 a1, .int .u8 a2, .int .u8 a3, .int .u8 a4, .int .u8 a5, .int .u8 a6, .int .u8 a7]) (.agg #[.int .u8 b0, .int .u8 b1, .int .u8 b2, .int .u8 b3, .int .u8 b4, .int .u8 b5, .int .u8 b6, .int .u8 b7])).run Try.prog w =
      .ok ([a0, a1, a2, a3, a4, a5, a6, a7] == [b0, b1, b2, b3, b4, b5, b6, b7]) w := by
  have e : ∀ (a b : Int) (w : World), (Op.equalIn 9999 5 (.int .u8 a) (.int .u8 b)).run Try.prog w = .ok (a == b) w := fun a b w => run_equalIn_int w 9998 5 .u8 .u8 a b Try.underlying5
  have hs : ∀ w, (sizeOf 5).run Try.prog w = .ok 1 w := fun w => by kernel_rfl
  have hu : ∀ w, (underlying 47).run Try.prog w = .ok (.array 8 5) w := fun w => by kernel_rfl
  have hp : ∀ (xs : Array Value) (k : Nat) (x : Int) (w : World), xs[k]? = some (.int .u8 x) → (part 5 xs k).run Try.prog w = .ok (.int .u8 x) w := by
    intro xs k x w h
    simp [part, go_sem, h]
  rw [Op.equalIn]
  simp only [Sem.run_bind, hu, Result.andThen_ok, hs]
  have pa0 : ∀ w, (part 5 #[.int .u8 a0, .int .u8 a1, .int .u8 a2, .int .u8 a3, .int .u8 a4, .int .u8 a5, .int .u8 a6, .int .u8 a7] 0).run Try.prog w = .ok (.int .u8 a0) w := fun w => hp _ 0 a0 w rfl
  have pb0 : ∀ w, (part 5 #[.int .u8 b0, .int .u8 b1, .int .u8 b2, .int .u8 b3, .int .u8 b4, .int .u8 b5, .int .u8 b6, .int .u8 b7] 0).run Try.prog w = .ok (.int .u8 b0) w := fun w => hp _ 0 b0 w rfl
  have pa1 : ∀ w, (part 5 #[.int .u8 a0, .int .u8 a1, .int .u8 a2, .int .u8 a3, .int .u8 a4, .int .u8 a5, .int .u8 a6, .int .u8 a7] 1).run Try.prog w = .ok (.int .u8 a1) w := fun w => hp _ 1 a1 w rfl
  have pb1 : ∀ w, (part 5 #[.int .u8 b0, .int .u8 b1, .int .u8 b2, .int .u8 b3, .int .u8 b4, .int .u8 b5, .int .u8 b6, .int .u8 b7] 1).run Try.prog w = .ok (.int .u8 b1) w := fun w => hp _ 1 b1 w rfl
  have pa2 : ∀ w, (part 5 #[.int .u8 a0, .int .u8 a1, .int .u8 a2, .int .u8 a3, .int .u8 a4, .int .u8 a5, .int .u8 a6, .int .u8 a7] 2).run Try.prog w = .ok (.int .u8 a2) w := fun w => hp _ 2 a2 w rfl
  have pb2 : ∀ w, (part 5 #[.int .u8 b0, .int .u8 b1, .int .u8 b2, .int .u8 b3, .int .u8 b4, .int .u8 b5, .int .u8 b6, .int .u8 b7] 2).run Try.prog w = .ok (.int .u8 b2) w := fun w => hp _ 2 b2 w rfl
  have pa3 : ∀ w, (part 5 #[.int .u8 a0, .int .u8 a1, .int .u8 a2, .int .u8 a3, .int .u8 a4, .int .u8 a5, .int .u8 a6, .int .u8 a7] 3).run Try.prog w = .ok (.int .u8 a3) w := fun w => hp _ 3 a3 w rfl
  have pb3 : ∀ w, (part 5 #[.int .u8 b0, .int .u8 b1, .int .u8 b2, .int .u8 b3, .int .u8 b4, .int .u8 b5, .int .u8 b6, .int .u8 b7] 3).run Try.prog w = .ok (.int .u8 b3) w := fun w => hp _ 3 b3 w rfl
  have pa4 : ∀ w, (part 5 #[.int .u8 a0, .int .u8 a1, .int .u8 a2, .int .u8 a3, .int .u8 a4, .int .u8 a5, .int .u8 a6, .int .u8 a7] 4).run Try.prog w = .ok (.int .u8 a4) w := fun w => hp _ 4 a4 w rfl
  have pb4 : ∀ w, (part 5 #[.int .u8 b0, .int .u8 b1, .int .u8 b2, .int .u8 b3, .int .u8 b4, .int .u8 b5, .int .u8 b6, .int .u8 b7] 4).run Try.prog w = .ok (.int .u8 b4) w := fun w => hp _ 4 b4 w rfl
  have pa5 : ∀ w, (part 5 #[.int .u8 a0, .int .u8 a1, .int .u8 a2, .int .u8 a3, .int .u8 a4, .int .u8 a5, .int .u8 a6, .int .u8 a7] 5).run Try.prog w = .ok (.int .u8 a5) w := fun w => hp _ 5 a5 w rfl
  have pb5 : ∀ w, (part 5 #[.int .u8 b0, .int .u8 b1, .int .u8 b2, .int .u8 b3, .int .u8 b4, .int .u8 b5, .int .u8 b6, .int .u8 b7] 5).run Try.prog w = .ok (.int .u8 b5) w := fun w => hp _ 5 b5 w rfl
  have pa6 : ∀ w, (part 5 #[.int .u8 a0, .int .u8 a1, .int .u8 a2, .int .u8 a3, .int .u8 a4, .int .u8 a5, .int .u8 a6, .int .u8 a7] 6).run Try.prog w = .ok (.int .u8 a6) w := fun w => hp _ 6 a6 w rfl
  have pb6 : ∀ w, (part 5 #[.int .u8 b0, .int .u8 b1, .int .u8 b2, .int .u8 b3, .int .u8 b4, .int .u8 b5, .int .u8 b6, .int .u8 b7] 6).run Try.prog w = .ok (.int .u8 b6) w := fun w => hp _ 6 b6 w rfl
  have pa7 : ∀ w, (part 5 #[.int .u8 a0, .int .u8 a1, .int .u8 a2, .int .u8 a3, .int .u8 a4, .int .u8 a5, .int .u8 a6, .int .u8 a7] 7).run Try.prog w = .ok (.int .u8 a7) w := fun w => hp _ 7 a7 w rfl
  have pb7 : ∀ w, (part 5 #[.int .u8 b0, .int .u8 b1, .int .u8 b2, .int .u8 b3, .int .u8 b4, .int .u8 b5, .int .u8 b6, .int .u8 b7] 7).run Try.prog w = .ok (.int .u8 b7) w := fun w => hp _ 7 b7 w rfl
  simp [Std.Legacy.Range.forIn_eq_forIn_range', List.range'_succ, e, pa0, pb0, pa1, pb1, pa2, pb2, pa3, pb3, pa4, pb4, pa5, pb5, pa6, pb6, pa7, pb7]
  by_cases h0 : ¬ a0 = b0
  · simp [h0, Result.andThen]
  simp only [Decidable.not_not] at h0
  subst h0
  by_cases h1 : ¬ a1 = b1
  · simp [h1, Result.andThen]
  simp only [Decidable.not_not] at h1
  subst h1
  by_cases h2 : ¬ a2 = b2
  · simp [h2, Result.andThen]
  simp only [Decidable.not_not] at h2
  subst h2
  by_cases h3 : ¬ a3 = b3
  · simp [h3, Result.andThen]
  simp only [Decidable.not_not] at h3
  subst h3
  by_cases h4 : ¬ a4 = b4
  · simp [h4, Result.andThen]
  simp only [Decidable.not_not] at h4
  subst h4
  by_cases h5 : ¬ a5 = b5
  · simp [h5, Result.andThen]
  simp only [Decidable.not_not] at h5
  subst h5
  by_cases h6 : ¬ a6 = b6
  · simp [h6, Result.andThen]
  simp only [Decidable.not_not] at h6
  subst h6
  by_cases h7 : ¬ a7 = b7
  · simp [h7, Result.andThen]
  simp only [Decidable.not_not] at h7
  subst h7
  simp [Result.andThen]
theorem list8 {ys : List Int} (h : ys.length = 8) : ys = [nth (ys) 0, nth (ys) 1, nth (ys) 2, nth (ys) 3, nth (ys) 4, nth (ys) 5, nth (ys) 6, nth (ys) 7] := by
  match ys, h with
  | [a, b, c, d, e, f, g, k], _ => rfl

theorem eqArr8' (w : World) (ys zs : List Int) (hy : ys.length = 8) (hz : zs.length = 8) : (Op.equalIn 10000 47 (.agg #[.int .u8 (nth (ys) 0), .int .u8 (nth (ys) 1), .int .u8 (nth (ys) 2), .int .u8 (nth (ys) 3), .int .u8 (nth (ys) 4), .int .u8 (nth (ys) 5), .int .u8 (nth (ys) 6), .int .u8 (nth (ys) 7)]) (.agg #[.int .u8 (nth (zs) 0), .int .u8 (nth (zs) 1), .int .u8 (nth (zs) 2), .int .u8 (nth (zs) 3), .int .u8 (nth (zs) 4), .int .u8 (nth (zs) 5), .int .u8 (nth (zs) 6), .int .u8 (nth (zs) 7)])).run Try.prog w = .ok (ys == zs) w := by
  rw [eqArr8, ← list8 hy, ← list8 hz]

theorem or3 {x y z : Int} (hx : 0 ≤ x ∧ x ≤ 255) (hy : 0 ≤ y ∧ y ≤ 255) (hz : 0 ≤ z ∧ z ≤ 255) : bits .or .i64 (bits .or .i64 (x * 65536) (y * 256)) z = x * 65536 + y * 256 + z := by
  obtain ⟨a, rfl⟩ : ∃ a : Nat, x = (a : Int) := ⟨x.toNat, by omega⟩
  obtain ⟨b, rfl⟩ : ∃ b : Nat, y = (b : Int) := ⟨y.toNat, by omega⟩
  obtain ⟨c, rfl⟩ : ∃ c : Nat, z = (c : Int) := ⟨z.toNat, by omega⟩
  have key : ∀ p q : Nat, p < 4294967296 → q < 4294967296 → bits .or .i64 (p : Int) (q : Int) = ((p ||| q : Nat) : Int) := by
    intro p q hp hq
    have hlt : p ||| q < 2 ^ 32 := Nat.or_lt_two_pow hp hq
    show IntKind.i64.wrap ((BitVec.ofInt 64 (p : Int) ||| BitVec.ofInt 64 (q : Int)).toNat : Int) = _
    rw [BitVec.toNat_or, BitVec.ofInt_natCast, BitVec.ofInt_natCast, BitVec.toNat_ofNat, BitVec.toNat_ofNat, Nat.mod_eq_of_lt (by omega), Nat.mod_eq_of_lt (by omega), IntKind.wrap_i64]
    omega
  have h1 : a * 65536 ||| b * 256 = a * 65536 + b * 256 := by
    have := Nat.two_pow_add_eq_or_of_lt (i := 16) (b := b * 256) (by omega) a
    rw [Nat.mul_comm a, show (65536 : Nat) = 2 ^ 16 by rfl]; exact this.symm
  have h2 : (a * 65536 + b * 256) ||| c = a * 65536 + b * 256 + c := by
    have := Nat.two_pow_add_eq_or_of_lt (i := 8) (b := c) (by omega) (a * 256 + b)
    rw [show a * 65536 + b * 256 = 2 ^ 8 * (a * 256 + b) by omega]; exact this.symm
  have e1 : (a : Int) * 65536 = ((a * 65536 : Nat) : Int) := by omega
  have e2 : (b : Int) * 256 = ((b * 256 : Nat) : Int) := by omega
  rw [e1, e2, key _ _ (by omega) (by omega), h1, key _ _ (by omega) (by omega), h2]
  omega

theorem Sl.capped {k : IntKind} {w : World} {a : Option Addr} {n c : Nat} {xs : List Int} (h : Sl k w a n c xs) : Sl k w a n n xs := ⟨h.hlen, Nat.le_refl _, Nat.le_trans h.le h.max, h.cells, h.wf⟩

theorem Sl.recap {k : IntKind} {w : World} {a : Option Addr} {n c : Nat} {xs : List Int} (h : Sl k w a n c xs) (c' : Nat) (h1 : n ≤ c') (h2 : c' ≤ maxLen) : Sl k w a n c' xs := ⟨h.hlen, h1, h2, h.cells, h.wf⟩

set_option maxHeartbeats 2000000 in
theorem first_any (a1 : Option Addr) (n1 c1 : Nat) (xs : List Int) (w : World) (h1 : Sl .u8 w a1 n1 c1 xs) (hn1 : n1 ≤ 1000000000) :
    Calls Try.prog 33 #[.slice a1 n1 c1] w fun e w' => NextPost w w' e (lnext xs) := by
  have b1 := h1.bd
  have e1 := Lib.hid h1.hlen
  by_cases h3 : n1 < 3
  · go_enter Try.func33, Try.ntmps33
    go_wp2
    go_ret3
    exact nextPost_none (by unfold lnext; rw [if_pos (by rw [e1.out]; exact h3)]) _ _ _ _ rfl (Ext.refl _)
  · obtain ⟨x1, o1, rfl, hc1⟩ := h1.at (by omega)
    have g0 := hc1 0 (by omega)
    have g1 := hc1 1 (by omega)
    have g2 := hc1 2 (by omega)
    have v0 := wf_u8 (h1.wfAt (i := 0) (by omega))
    have v1 := wf_u8 (h1.wfAt (i := 1) (by omega))
    have v2 := wf_u8 (h1.wfAt (i := 2) (by omega))
    obtain ⟨N, hN⟩ : ∃ N : Nat, nth xs 0 * 65536 + nth xs 1 * 256 + nth xs 2 = (N : Int) := ⟨(nth xs 0 * 65536 + nth xs 1 * 256 + nth xs 2).toNat, by omega⟩
    have hN3 : Hid (n3 xs = N) := by unfold Hid n3; omega
    have hNb : N < 16777216 := by omega
    have hor := or3 v0 v1 v2
    rw [hN] at hor
    clear hN
    clear hc1
    simp only [Nat.add_zero] at g0
    go_enter Try.func33, Try.ntmps33
    go_wp2
    refine region_ext (by kernel_rfl) (by kernel_rfl) ?_
    have g0' := cellG g0
    have g1' := cellG g1
    have g2' := cellG g2
    repeat (go_big_quiet_step (fail))
    refine wpQuiet_nil ?_
    intro w1 hE1
    replace h1 := h1.ext hE1
    clear g0' g1' g2' g0 g1 g2
    by_cases h11 : n1 < N + 11
    · have hd : decide ((n1 : Int) < N + 11) = true := by simp; omega
      go_wp2
      refine region_ext (by kernel_rfl) (by kernel_rfl) ?_
      repeat (go_big_quiet_step (fail))
      refine wpQuiet_nil ?_
      intro w2 hE2
      go_wp2
      go_ret3
      exact nextPost_none (by unfold lnext; rw [if_neg (by rw [e1.out]; omega), if_pos (by rw [e1.out, hN3.out]; omega)]) _ _ _ _ rfl (hE1.trans hE2)
    · have hd : decide ((n1 : Int) < N + 11) = false := by simp; omega
      have ha := h1.take (m := N + 3) (by omega)
      have hb := (h1.drop (m := N + 3) (by omega) (c1 - (N + 3)) (by omega) (by omega)).take (m := 8) (by omega)
      have hbl := Lib.hid hb.hlen
      obtain ⟨x2, o2, hx2, hc2⟩ := hb.at (by omega)
      simp only [Option.some.injEq, Addr.mk.injEq, and_true] at hx2
      obtain ⟨rfl, rfl⟩ := hx2
      have k0 := cellG (hc2 0 (by omega))
      have k1 := cellG (hc2 1 (by omega))
      have k2 := cellG (hc2 2 (by omega))
      have k3 := cellG (hc2 3 (by omega))
      have k4 := cellG (hc2 4 (by omega))
      have k5 := cellG (hc2 5 (by omega))
      have k6 := cellG (hc2 6 (by omega))
      have k7 := cellG (hc2 7 (by omega))
      simp only [Nat.add_zero] at k0
      clear hc2
      have hw11 : IntKind.i64.wrap ((N : Int) + 11) = (N : Int) + 11 := IntWalk.i64_in _ (by omega)
      have hw3 : IntKind.i64.wrap ((N : Int) + 3) = (N : Int) + 3 := IntWalk.i64_in _ (by omega)
      have hz3 : (0 : Int) ≤ (N : Int) + 3 := by omega
      have hl3 : (N : Int) + 3 ≤ n1 := by omega
      have hl4 : (N : Int) + 3 ≤ c1 := by omega
      have hl5 : (N : Int) + 11 ≤ c1 := by omega
      have hl6 : (N : Int) + 3 ≤ (N : Int) + 11 := by omega
      have ht3 : ((N : Int) + 3).toNat = N + 3 := by omega
      have ht11 : ((N : Int) + 11).toNat = N + 11 := by omega
      have hgd8 : Try.prog.eqGuardType Try.prog.depth 47 = false := by kernel_rfl
      have hneq := fun w => eqArr8' w ((xs.drop (N + 3)).take 8) (dig8 (xs.take (N + 3))) hb.hlen (dig8_len _)
      have hsa : ∀ w, (Instr.arrayAt 47 (.slice (some ⟨x1, o1 + (N + 3), none⟩) 8 (c1 - (N + 3)))).run Try.prog w = .ok (.pointer (some ⟨x1, o1 + (N + 3), none⟩)) w := by
        intro w
        simp [Instr.arrayAt, go_sem]
      by_cases hdg : dig8 (xs.take (N + 3)) = (xs.drop (N + 3)).take 8
      · have hdb : ((xs.drop (N + 3)).take 8 == dig8 (xs.take (N + 3))) = true := by simp [hdg]
        have HD := Lib.hid hdg
        clear hdg
        go_wp2
        refine region_ext (by kernel_rfl) (by kernel_rfl) ?_
        repeat (go_big_quiet_step ((go_at_call 27; exact Calls.regrown_of (sum8_any _ _ _ (xs.take (N + 3)) _ (ha.capped.ext (ext_grow _ _ _))))))
        refine wpQuiet_nil ?_
        intro w2 hE2
        clear k0 k1 k2 k3 k4 k5 k6 k7
        have hE12 := hE1.trans hE2
        have hs0 := (((h1.ext hE2).drop (m := 3) (by omega) (c1 - 3) (by omega) (by omega)).take (m := N) (by omega)).recap N (Nat.le_refl _) (by unfold maxLen; omega)
        obtain ⟨A3, hA3, hs⟩ : ∃ A3 : Option Addr, (∀ w, (Instr.slice 23 (.slice (some ⟨x1, o1, none⟩) n1 c1) (some (.int .i64 3)) (some (.int .i64 ((N : Int) + 3))) (some (.int .i64 ((N : Int) + 3)))).run Try.prog w = .ok (.slice A3 N N) w) ∧
            Sl .u8 w2 A3 N N ((xs.drop 3).take N) := by
          have hrun := fun w => run_slice_lhm (P := Try.prog) w 23 (some ⟨x1, o1, none⟩) n1 c1 (by kernel_rfl) .i64 .i64 .i64 3 ((N : Int) + 3) ((N : Int) + 3) (by omega) (by omega) (by omega) (by omega)
          have hsz : ∀ w, (sizeOf (Try.prog.elem 23)).run Try.prog w = .ok 1 w := fun _ => by kernel_rfl
          refine ⟨if N + 3 = 3 then some ⟨x1, o1, none⟩ else (some ⟨x1, o1, none⟩ : Option Addr).map (·.add 3), fun w => ?_, ?_⟩
          · rw [hrun w, hsz, ht3]
            simp [Result.andThen, sliced]
          · by_cases hN0 : N = 0
            · subst hN0
              exact ⟨by simp, Nat.le_refl _, by simp [maxLen], fun i hi => absurd hi (by omega), by simp⟩
            · rw [if_neg (by omega)]
              simpa [Addr.add] using hs0
        go_wp2_with fail
        refine (get_any _ _ _ ((xs.drop 3).take N) _ hs (by omega)).mono ?_
        intro e w4 hp
        have hnx : lnext xs = (lget ((xs.drop 3).take N)).map fun l => (l, N + 11) := by
          unfold lnext
          rw [if_neg (by rw [e1.out]; omega), if_neg (by rw [e1.out, hN3.out]; omega), hN3.out, if_pos HD.out]
        have HX := Lib.hid hnx
        clear hnx
        rcases hr : lget ((xs.drop 3).take N) with _ | l
        · rw [hr] at hp
          obtain ⟨rfl, hE4⟩ := hp
          have HR := Lib.hid hr
          clear hr
          go_wp2
          go_ret3
          exact nextPost_none (by rw [HX.out, HR.out]; rfl) _ _ _ _ rfl (hE12.trans hE4)
        · rw [hr] at hp
          obtain ⟨a4, c4, rfl, ho4, hE4⟩ := hp
          have HR := Lib.hid hr
          have hwl := Lib.hid (lget_wf h1.wf hr)
          clear hr
          go_wp2
          go_ret3
          exact nextPost_some (by rw [HX.out, HR.out]; rfl) _ _ rfl (ho4.mono hE12.sz) hwl.out (hE12.trans hE4)
      · have hdb : ((xs.drop (N + 3)).take 8 == dig8 (xs.take (N + 3))) = false := by simp; intro h; exact hdg h.symm
        have HD := Lib.hid hdg
        clear hdg
        go_wp2
        refine region_ext (by kernel_rfl) (by kernel_rfl) ?_
        repeat (go_big_quiet_step ((go_at_call 27; exact Calls.regrown_of (sum8_any _ _ _ (xs.take (N + 3)) _ (ha.capped.ext (ext_grow _ _ _))))))
        refine wpQuiet_nil ?_
        intro w2 hE2
        clear k0 k1 k2 k3 k4 k5 k6 k7
        go_wp2
        go_ret3
        exact nextPost_none (by unfold lnext; rw [if_neg (by rw [e1.out]; omega), if_neg (by rw [e1.out, hN3.out]; omega), hN3.out, if_neg HD.out]) _ _ _ _ rfl (hE1.trans hE2)

end Go.Proofs.Ythjldbefjkbniaa
