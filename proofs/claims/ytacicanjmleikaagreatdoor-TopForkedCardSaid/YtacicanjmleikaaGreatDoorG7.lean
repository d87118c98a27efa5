/-
  Verify, by both implementations, walked.
-/
import Derived.Test.YtacicanjmleikaaGreatDoorG6
namespace Go.Proofs.YtacicanjmleikaaGreatDoor
open Go.RowKit Go.Sort Go.Shelf
set_option linter.unusedSimpArgs false
set_option linter.unusedVariables false
set_option maxRecDepth 100000

def vOk (pub C S : Int) : Bool := memB pub && (inQ C 0 && inQ S 0)
def verB (pub C S : Int) (ms : List Int) : Bool := vOk pub C S && (chal (backN pub.toNat C.toNat S.toNat : Nat) pub ms == C)
def verE (pub C S : Int) : Int := if vOk pub C S then 0 else 1

theorem back_eq {pub C S : Nat} (h : memB pub = true) (hC : C < 1073741789) : backN pub C S = pw 2147483579 4 S * pw 2147483579 pub (1073741789 - C) % 2147483579 := by
  unfold backN
  by_cases h0 : C = 0
  · subst h0
    have h1 : pw 2147483579 pub 1073741789 = 1 := by
      simp only [memB, Bool.and_eq_true, decide_eq_true_eq, beq_iff_eq, Int.toNat_natCast] at h
      omega
    rw [show (1073741789 - 0) % 1073741789 = 0 from rfl, show 1073741789 - 0 = 1073741789 from rfl, h1, pw_def 2147483579 pub 0, Nat.pow_zero]
  · rw [Nat.mod_eq_of_lt (show 1073741789 - C < 1073741789 by omega)]

theorem wfN {n : Nat} (h : n < 2147483579) : (Lit.int .i64 (n : Int)).wf = true := by simp [Lit.wf, IntKind.min, IntKind.max, IntKind.signed, IntKind.bits]; omega

set_option maxHeartbeats 1000000 in
theorem verify_any (pub C S : Int) (a1 : Option Addr) (n1 c1 : Nat) (ms : List Int) (w : World) (h1 : Sl .i64 w a1 n1 c1 ms) (hn : n1 ≤ 500) (ht : TB w) :
    Calls Tryz.prog 88 #[.int .i64 pub, .agg #[.int .i64 C, .int .i64 S], .slice a1 n1 c1] w fun e w' => e = .returned (.tuple #[.bool (verB pub C S ms), .int .i64 (verE pub C S)]) ∧ Ext w w' := by
  have b1 := h1.bd
  have HT := Lib.hid ht
  clear ht
  have hm := fun w => member_any pub w
  have hc := fun w => within_any C 0 w
  have hs := fun w => within_any S 0 w
  have HM := Lib.hid hm
  have HC := Lib.hid hc
  have HS := Lib.hid hs
  have lm := @memB_lt pub
  have lc := @inQ_lt C 0
  have ls := @inQ_lt S 0
  have hbe := fun h => @back_eq pub.toNat C.toNat S.toNat h
  clear hm hc hs
  unfold verB verE vOk
  have hmm : memB ((pub.toNat : Nat) : Int) = memB pub ∨ memB pub = false := by
    by_cases h : 0 ≤ pub
    · left; rw [show ((pub.toNat : Nat) : Int) = pub by omega]
    · right; simp [memB]; omega
  generalize hA : memB pub = A at *
  generalize inQ C 0 = B at *
  generalize inQ S 0 = D at *
  have hB0 := World.alloc_heap_new w (.cells #[.int .i64 (C : Int), .int .i64 (S : Int)] 32)
  have hE0 : Ext w (w.alloc (.cells #[.int .i64 (C : Int), .int .i64 (S : Int)] 32)) := (Ext.refl w).alloc _
  cases A
  · clear hB0 hE0 hbe hmm hA
    go_enter Tryz.func88, Tryz.ntmps88
    go_wp2_with fail
    refine (HM.out _).mono ?_
    rintro e w2 ⟨rfl, hE2⟩
    go_wp2_with fail
    go_ret2
    exact ⟨rfl, ((Ext.refl w).alloc _).trans hE2⟩
  · cases B
    · clear hbe hmm hA
      go_enter Tryz.func88, Tryz.ntmps88
      go_wp2_with fail
      refine (HM.out _).mono ?_
      rintro e w2 ⟨rfl, hE2⟩
      have hB2 := (hE2.block _ (by simp)).trans hB0
      have d0 := cell_of_block hB2 0 _ rfl
      have d1 := cell_of_block hB2 1 _ rfl
      go_wp2_with fail
      refine (HC.out _).mono ?_
      rintro e w' ⟨rfl, rfl⟩
      go_wp2_with fail
      go_ret2
      exact ⟨rfl, ((Ext.refl w).alloc _).trans hE2⟩
    · cases D
      · clear hbe hmm hA
        go_enter Tryz.func88, Tryz.ntmps88
        go_wp2_with fail
        refine (HM.out _).mono ?_
        rintro e w2 ⟨rfl, hE2⟩
        have hB2 := (hE2.block _ (by simp)).trans hB0
        have d0 := cell_of_block hB2 0 _ rfl
        have d1 := cell_of_block hB2 1 _ rfl
        go_wp2_with fail
        refine (HC.out _).mono ?_
        rintro e w' ⟨rfl, rfl⟩
        go_wp2_with fail
        refine (HS.out _).mono ?_
        rintro e w' ⟨rfl, rfl⟩
        go_wp2_with fail
        go_ret2
        exact ⟨rfl, ((Ext.refl w).alloc _).trans hE2⟩
      · have l1 := lm rfl
        have l2 := lc rfl
        have l3 := ls rfl
        clear lm lc ls
        obtain ⟨p, rfl⟩ : ∃ p : Nat, pub = p := ⟨pub.toNat, by omega⟩
        obtain ⟨c, rfl⟩ : ∃ c : Nat, C = c := ⟨C.toNat, by omega⟩
        obtain ⟨s, rfl⟩ : ∃ s : Nat, S = s := ⟨S.toNat, by omega⟩
        simp only [Int.toNat_natCast, Bool.and_self, Bool.true_and, if_true] at *
        have hbk := hbe (by simpa using hA) (by omega)
        clear hbe hmm
        have hp1 := fun w => power_any 4 s (by omega) (by omega) w
        have hp2 := fun w => power_any p (1073741789 - c) (by omega) (by omega) w
        rw [show ((1073741789 - c : Nat) : Int) = 1073741789 - (c : Int) by omega] at hp2
        have v1 := pw_lt (m := 2147483579) (a := 4) (x := s) (by omega)
        have v2 := pw_lt (m := 2147483579) (a := p) (x := 1073741789 - c) (by omega)
        have vb := backN_lt p c s
        generalize hBg : backN p c s = Bg at *
        generalize pw 2147483579 4 s = V1 at *
        generalize pw 2147483579 p (1073741789 - c) = V2 at *
        obtain ⟨m1, m2⟩ := mulN V1 V2 v1 v2
        generalize hM : V1 * V2 = M at *
        have hbi : (M : Int) % 2147483579 = (Bg : Int) := by rw [hbk]; rfl
        have HB := Lib.hid hbi
        have hch := fun w => challenge_any (Bg : Int) (p : Int) (wfN (by omega)) (wfN (by omega)) a1 n1 c1 ms w
        have hcl := chal_lt (Bg : Int) (p : Int) ms
        generalize chal (Bg : Int) (p : Int) ms = K at *
        have hq := fun (w : World) => eqSig (c : Int) (s : Int) K (s : Int) w
        have hd : decide ((c : Int) = K ∧ (s : Int) = (s : Int)) = (K == (c : Int)) := by
          rw [Bool.eq_iff_iff]; simp; exact eq_comm
        rw [hd] at hq
        clear hd
        generalize (K == (c : Int)) = R at *
        have HP1 := Lib.hid hp1
        have HP2 := Lib.hid hp2
        have HCH := Lib.hid hch
        clear hp1 hp2 hch hbi hbk hBg hA
        go_enter Tryz.func88, Tryz.ntmps88
        go_wp2_with fail
        refine (HM.out _).mono ?_
        rintro e w2 ⟨rfl, hE2⟩
        have hB2 := (hE2.block _ (by simp)).trans hB0
        have d0 := cell_of_block hB2 0 _ rfl
        have d1 := cell_of_block hB2 1 _ rfl
        have hEw2 := hE0.trans hE2
        clear hE2 hB0 hE0
        go_wp2_with fail
        refine (HC.out _).mono ?_
        rintro e w5 ⟨rfl, hw5⟩
        rw [hw5]
        clear hw5 w5
        go_wp2_with fail
        refine (HS.out _).mono ?_
        rintro e w5 ⟨rfl, hw5⟩
        rw [hw5]
        clear hw5 w5
        go_wp2_with fail
        refine region_rely (S := Ext) (fun W' => Ext w2 W') [some 24, some 25, some 26, some 27, some 28, some 29, some 30, some 31, some 32, some 33, some 8] [[], [0], [0, 1], [], [], [4], [4, 5], [0, 1, 2, 3, 4, 5, 6], [0, 1, 2, 3, 4, 5, 6, 7], [0, 1, 2, 3, 4, 5, 6, 7, 8], [0, 1, 2, 3, 4, 5, 6, 7, 8, 9]] [[], [], [], [], [], [], [], [], [], [], []] [.one (.pointer (some ⟨w.heap.size, 1, none⟩)), .one (.int .i64 s), .one (.int .i64 V1), .one (.int .i64 p), .one (.pointer (some ⟨w.heap.size, 0, none⟩)), .one (.int .i64 c), .one (.int .i64 (1073741789 - (c : Int))), .one (.int .i64 V2), .one (.int .i64 M), .one (.int .i64 Bg), .one (.int .i64 Bg)] (by kernel_rfl) (by kernel_rfl) (Ext.refl w2).drew ?_ ?_
        · refine stepsR_cons ?_ (stepsR_cons ?_ (stepsR_cons ?_ (stepsR_cons ?_ (stepsR_cons ?_ (stepsR_cons ?_ (stepsR_cons ?_ (stepsR_cons ?_ (stepsR_cons ?_ (stepsR_cons ?_ (stepsR_cons ?_ (trivial)))))))))))
          · intro vs W' hl hI hd ho
            obtain ⟨x0, v0, rfl, l0⟩ := len_cons hl; obtain ⟨x1, v1, rfl, l1⟩ := len_cons l0; obtain ⟨x2, v2, rfl, l2⟩ := len_cons l1; obtain ⟨x3, v3, rfl, l3⟩ := len_cons l2; obtain ⟨x4, v4, rfl, l4⟩ := len_cons l3; obtain ⟨x5, v5, rfl, l5⟩ := len_cons l4; obtain ⟨x6, v6, rfl, l6⟩ := len_cons l5; obtain ⟨x7, v7, rfl, l7⟩ := len_cons l6; obtain ⟨x8, v8, rfl, l8⟩ := len_cons l7; obtain ⟨x9, v9, rfl, l9⟩ := len_cons l8; obtain ⟨x10, v10, rfl, l10⟩ := len_cons l9; obtain rfl := len_nil l10; clear hl l0 l1 l2 l3 l4 l5 l6 l7 l8 l9 l10
            simp only [putAll, Act.put, List.setIfInBounds_toArray, List.set_cons_succ, List.set_cons_zero]
            go_wp2_with fail
            exact rely_done _ rfl rfl (Ext.refl _) hI
          · intro vs W' hl hI hd ho
            obtain ⟨x0, v0, rfl, l0⟩ := len_cons hl; obtain ⟨x1, v1, rfl, l1⟩ := len_cons l0; obtain ⟨x2, v2, rfl, l2⟩ := len_cons l1; obtain ⟨x3, v3, rfl, l3⟩ := len_cons l2; obtain ⟨x4, v4, rfl, l4⟩ := len_cons l3; obtain ⟨x5, v5, rfl, l5⟩ := len_cons l4; obtain ⟨x6, v6, rfl, l6⟩ := len_cons l5; obtain ⟨x7, v7, rfl, l7⟩ := len_cons l6; obtain ⟨x8, v8, rfl, l8⟩ := len_cons l7; obtain ⟨x9, v9, rfl, l9⟩ := len_cons l8; obtain ⟨x10, v10, rfl, l10⟩ := len_cons l9; obtain rfl := len_nil l10; clear hl l0 l1 l2 l3 l4 l5 l6 l7 l8 l9 l10
            simp only [factsR, atR, List.getElem?_cons_succ, List.getElem?_cons_zero, Rel.one, Rel.blk] at hd
            obtain ⟨rfl, -⟩ := hd
            simp only [putAll, Act.put, List.setIfInBounds_toArray, List.set_cons_succ, List.set_cons_zero]
            have e1 := hI.cell d1
            go_wp2_with fail
            exact rely_done _ rfl rfl (Ext.refl _) hI
          · intro vs W' hl hI hd ho
            obtain ⟨x0, v0, rfl, l0⟩ := len_cons hl; obtain ⟨x1, v1, rfl, l1⟩ := len_cons l0; obtain ⟨x2, v2, rfl, l2⟩ := len_cons l1; obtain ⟨x3, v3, rfl, l3⟩ := len_cons l2; obtain ⟨x4, v4, rfl, l4⟩ := len_cons l3; obtain ⟨x5, v5, rfl, l5⟩ := len_cons l4; obtain ⟨x6, v6, rfl, l6⟩ := len_cons l5; obtain ⟨x7, v7, rfl, l7⟩ := len_cons l6; obtain ⟨x8, v8, rfl, l8⟩ := len_cons l7; obtain ⟨x9, v9, rfl, l9⟩ := len_cons l8; obtain ⟨x10, v10, rfl, l10⟩ := len_cons l9; obtain rfl := len_nil l10; clear hl l0 l1 l2 l3 l4 l5 l6 l7 l8 l9 l10
            simp only [factsR, atR, List.getElem?_cons_succ, List.getElem?_cons_zero, Rel.one, Rel.blk] at hd
            obtain ⟨rfl, rfl, -⟩ := hd
            simp only [putAll, Act.put, List.setIfInBounds_toArray, List.set_cons_succ, List.set_cons_zero]
            go_wp2_with fail
            refine (HP1.out _).mono ?_
            rintro e w3 ⟨rfl, hE3⟩
            go_wp2_with fail
            exact rely_done _ rfl rfl hE3 (hI.trans hE3)
          · intro vs W' hl hI hd ho
            obtain ⟨x0, v0, rfl, l0⟩ := len_cons hl; obtain ⟨x1, v1, rfl, l1⟩ := len_cons l0; obtain ⟨x2, v2, rfl, l2⟩ := len_cons l1; obtain ⟨x3, v3, rfl, l3⟩ := len_cons l2; obtain ⟨x4, v4, rfl, l4⟩ := len_cons l3; obtain ⟨x5, v5, rfl, l5⟩ := len_cons l4; obtain ⟨x6, v6, rfl, l6⟩ := len_cons l5; obtain ⟨x7, v7, rfl, l7⟩ := len_cons l6; obtain ⟨x8, v8, rfl, l8⟩ := len_cons l7; obtain ⟨x9, v9, rfl, l9⟩ := len_cons l8; obtain ⟨x10, v10, rfl, l10⟩ := len_cons l9; obtain rfl := len_nil l10; clear hl l0 l1 l2 l3 l4 l5 l6 l7 l8 l9 l10
            simp only [putAll, Act.put, List.setIfInBounds_toArray, List.set_cons_succ, List.set_cons_zero]
            go_wp2_with fail
            exact rely_done _ rfl rfl (Ext.refl _) hI
          · intro vs W' hl hI hd ho
            obtain ⟨x0, v0, rfl, l0⟩ := len_cons hl; obtain ⟨x1, v1, rfl, l1⟩ := len_cons l0; obtain ⟨x2, v2, rfl, l2⟩ := len_cons l1; obtain ⟨x3, v3, rfl, l3⟩ := len_cons l2; obtain ⟨x4, v4, rfl, l4⟩ := len_cons l3; obtain ⟨x5, v5, rfl, l5⟩ := len_cons l4; obtain ⟨x6, v6, rfl, l6⟩ := len_cons l5; obtain ⟨x7, v7, rfl, l7⟩ := len_cons l6; obtain ⟨x8, v8, rfl, l8⟩ := len_cons l7; obtain ⟨x9, v9, rfl, l9⟩ := len_cons l8; obtain ⟨x10, v10, rfl, l10⟩ := len_cons l9; obtain rfl := len_nil l10; clear hl l0 l1 l2 l3 l4 l5 l6 l7 l8 l9 l10
            simp only [putAll, Act.put, List.setIfInBounds_toArray, List.set_cons_succ, List.set_cons_zero]
            go_wp2_with fail
            exact rely_done _ rfl rfl (Ext.refl _) hI
          · intro vs W' hl hI hd ho
            obtain ⟨x0, v0, rfl, l0⟩ := len_cons hl; obtain ⟨x1, v1, rfl, l1⟩ := len_cons l0; obtain ⟨x2, v2, rfl, l2⟩ := len_cons l1; obtain ⟨x3, v3, rfl, l3⟩ := len_cons l2; obtain ⟨x4, v4, rfl, l4⟩ := len_cons l3; obtain ⟨x5, v5, rfl, l5⟩ := len_cons l4; obtain ⟨x6, v6, rfl, l6⟩ := len_cons l5; obtain ⟨x7, v7, rfl, l7⟩ := len_cons l6; obtain ⟨x8, v8, rfl, l8⟩ := len_cons l7; obtain ⟨x9, v9, rfl, l9⟩ := len_cons l8; obtain ⟨x10, v10, rfl, l10⟩ := len_cons l9; obtain rfl := len_nil l10; clear hl l0 l1 l2 l3 l4 l5 l6 l7 l8 l9 l10
            simp only [factsR, atR, List.getElem?_cons_succ, List.getElem?_cons_zero, Rel.one, Rel.blk] at hd
            obtain ⟨rfl, -⟩ := hd
            simp only [putAll, Act.put, List.setIfInBounds_toArray, List.set_cons_succ, List.set_cons_zero]
            have e0 := hI.cell d0
            go_wp2_with fail
            exact rely_done _ rfl rfl (Ext.refl _) hI
          · intro vs W' hl hI hd ho
            obtain ⟨x0, v0, rfl, l0⟩ := len_cons hl; obtain ⟨x1, v1, rfl, l1⟩ := len_cons l0; obtain ⟨x2, v2, rfl, l2⟩ := len_cons l1; obtain ⟨x3, v3, rfl, l3⟩ := len_cons l2; obtain ⟨x4, v4, rfl, l4⟩ := len_cons l3; obtain ⟨x5, v5, rfl, l5⟩ := len_cons l4; obtain ⟨x6, v6, rfl, l6⟩ := len_cons l5; obtain ⟨x7, v7, rfl, l7⟩ := len_cons l6; obtain ⟨x8, v8, rfl, l8⟩ := len_cons l7; obtain ⟨x9, v9, rfl, l9⟩ := len_cons l8; obtain ⟨x10, v10, rfl, l10⟩ := len_cons l9; obtain rfl := len_nil l10; clear hl l0 l1 l2 l3 l4 l5 l6 l7 l8 l9 l10
            simp only [factsR, atR, List.getElem?_cons_succ, List.getElem?_cons_zero, Rel.one, Rel.blk] at hd
            obtain ⟨rfl, rfl, -⟩ := hd
            simp only [putAll, Act.put, List.setIfInBounds_toArray, List.set_cons_succ, List.set_cons_zero]
            go_wp2_with fail
            exact rely_done _ rfl rfl (Ext.refl _) hI
          · intro vs W' hl hI hd ho
            obtain ⟨x0, v0, rfl, l0⟩ := len_cons hl; obtain ⟨x1, v1, rfl, l1⟩ := len_cons l0; obtain ⟨x2, v2, rfl, l2⟩ := len_cons l1; obtain ⟨x3, v3, rfl, l3⟩ := len_cons l2; obtain ⟨x4, v4, rfl, l4⟩ := len_cons l3; obtain ⟨x5, v5, rfl, l5⟩ := len_cons l4; obtain ⟨x6, v6, rfl, l6⟩ := len_cons l5; obtain ⟨x7, v7, rfl, l7⟩ := len_cons l6; obtain ⟨x8, v8, rfl, l8⟩ := len_cons l7; obtain ⟨x9, v9, rfl, l9⟩ := len_cons l8; obtain ⟨x10, v10, rfl, l10⟩ := len_cons l9; obtain rfl := len_nil l10; clear hl l0 l1 l2 l3 l4 l5 l6 l7 l8 l9 l10
            simp only [factsR, atR, List.getElem?_cons_succ, List.getElem?_cons_zero, Rel.one, Rel.blk] at hd
            obtain ⟨rfl, rfl, rfl, rfl, rfl, rfl, rfl, -⟩ := hd
            simp only [putAll, Act.put, List.setIfInBounds_toArray, List.set_cons_succ, List.set_cons_zero]
            go_wp2_with fail
            refine (HP2.out _).mono ?_
            rintro e w3 ⟨rfl, hE3⟩
            go_wp2_with fail
            exact rely_done _ rfl rfl hE3 (hI.trans hE3)
          · intro vs W' hl hI hd ho
            obtain ⟨x0, v0, rfl, l0⟩ := len_cons hl; obtain ⟨x1, v1, rfl, l1⟩ := len_cons l0; obtain ⟨x2, v2, rfl, l2⟩ := len_cons l1; obtain ⟨x3, v3, rfl, l3⟩ := len_cons l2; obtain ⟨x4, v4, rfl, l4⟩ := len_cons l3; obtain ⟨x5, v5, rfl, l5⟩ := len_cons l4; obtain ⟨x6, v6, rfl, l6⟩ := len_cons l5; obtain ⟨x7, v7, rfl, l7⟩ := len_cons l6; obtain ⟨x8, v8, rfl, l8⟩ := len_cons l7; obtain ⟨x9, v9, rfl, l9⟩ := len_cons l8; obtain ⟨x10, v10, rfl, l10⟩ := len_cons l9; obtain rfl := len_nil l10; clear hl l0 l1 l2 l3 l4 l5 l6 l7 l8 l9 l10
            simp only [factsR, atR, List.getElem?_cons_succ, List.getElem?_cons_zero, Rel.one, Rel.blk] at hd
            obtain ⟨rfl, rfl, rfl, rfl, rfl, rfl, rfl, rfl, -⟩ := hd
            simp only [putAll, Act.put, List.setIfInBounds_toArray, List.set_cons_succ, List.set_cons_zero]
            go_wp2_with fail
            exact rely_done _ rfl rfl (Ext.refl _) hI
          · intro vs W' hl hI hd ho
            obtain ⟨x0, v0, rfl, l0⟩ := len_cons hl; obtain ⟨x1, v1, rfl, l1⟩ := len_cons l0; obtain ⟨x2, v2, rfl, l2⟩ := len_cons l1; obtain ⟨x3, v3, rfl, l3⟩ := len_cons l2; obtain ⟨x4, v4, rfl, l4⟩ := len_cons l3; obtain ⟨x5, v5, rfl, l5⟩ := len_cons l4; obtain ⟨x6, v6, rfl, l6⟩ := len_cons l5; obtain ⟨x7, v7, rfl, l7⟩ := len_cons l6; obtain ⟨x8, v8, rfl, l8⟩ := len_cons l7; obtain ⟨x9, v9, rfl, l9⟩ := len_cons l8; obtain ⟨x10, v10, rfl, l10⟩ := len_cons l9; obtain rfl := len_nil l10; clear hl l0 l1 l2 l3 l4 l5 l6 l7 l8 l9 l10
            simp only [factsR, atR, List.getElem?_cons_succ, List.getElem?_cons_zero, Rel.one, Rel.blk] at hd
            obtain ⟨rfl, rfl, rfl, rfl, rfl, rfl, rfl, rfl, rfl, -⟩ := hd
            simp only [putAll, Act.put, List.setIfInBounds_toArray, List.set_cons_succ, List.set_cons_zero]
            go_wp2_with fail
            exact rely_done _ rfl (by show Value.int .i64 _ = Value.int .i64 _; exact congrArg _ HB.out) (Ext.refl _) hI
          · intro vs W' hl hI hd ho
            obtain ⟨x0, v0, rfl, l0⟩ := len_cons hl; obtain ⟨x1, v1, rfl, l1⟩ := len_cons l0; obtain ⟨x2, v2, rfl, l2⟩ := len_cons l1; obtain ⟨x3, v3, rfl, l3⟩ := len_cons l2; obtain ⟨x4, v4, rfl, l4⟩ := len_cons l3; obtain ⟨x5, v5, rfl, l5⟩ := len_cons l4; obtain ⟨x6, v6, rfl, l6⟩ := len_cons l5; obtain ⟨x7, v7, rfl, l7⟩ := len_cons l6; obtain ⟨x8, v8, rfl, l8⟩ := len_cons l7; obtain ⟨x9, v9, rfl, l9⟩ := len_cons l8; obtain ⟨x10, v10, rfl, l10⟩ := len_cons l9; obtain rfl := len_nil l10; clear hl l0 l1 l2 l3 l4 l5 l6 l7 l8 l9 l10
            simp only [factsR, atR, List.getElem?_cons_succ, List.getElem?_cons_zero, Rel.one, Rel.blk] at hd
            obtain ⟨rfl, rfl, rfl, rfl, rfl, rfl, rfl, rfl, rfl, rfl, -⟩ := hd
            simp only [putAll, Act.put, List.setIfInBounds_toArray, List.set_cons_succ, List.set_cons_zero]
            go_wp2_with fail
            exact rely_done _ rfl rfl (Ext.refl _) hI
        · intro vs W' hl hI hd
          obtain ⟨x0, v0, rfl, l0⟩ := len_cons hl; obtain ⟨x1, v1, rfl, l1⟩ := len_cons l0; obtain ⟨x2, v2, rfl, l2⟩ := len_cons l1; obtain ⟨x3, v3, rfl, l3⟩ := len_cons l2; obtain ⟨x4, v4, rfl, l4⟩ := len_cons l3; obtain ⟨x5, v5, rfl, l5⟩ := len_cons l4; obtain ⟨x6, v6, rfl, l6⟩ := len_cons l5; obtain ⟨x7, v7, rfl, l7⟩ := len_cons l6; obtain ⟨x8, v8, rfl, l8⟩ := len_cons l7; obtain ⟨x9, v9, rfl, l9⟩ := len_cons l8; obtain ⟨x10, v10, rfl, l10⟩ := len_cons l9; obtain rfl := len_nil l10; clear hl l0 l1 l2 l3 l4 l5 l6 l7 l8 l9 l10
          simp only [List.length_cons, List.length_nil, List.range, List.range.loop, Nat.zero_add, Nat.reduceAdd, factsR, atR, List.getElem?_cons_succ, List.getElem?_cons_zero, Rel.one, Rel.blk] at hd
          obtain ⟨rfl, rfl, rfl, rfl, rfl, rfl, rfl, rfl, rfl, rfl, rfl, -⟩ := hd
          simp only [putAll, Act.put, List.setIfInBounds_toArray, List.set_cons_succ, List.set_cons_zero]
          have hEw3 := hEw2.trans hI
          have f0 := hI.cell d0
          have f1 := hI.cell d1
          clear hI d0 d1
          generalize W' = w3 at *
          go_wp2_with fail
          refine region_rely (S := Ext) (fun W' => Ext w3 W') [some 34, some 35, some 36, some 37, some 38, some 39, some 40, some 41, some 42, some 6, some 7] [[], [], [], [], [1, 2, 3], [], [5], [1, 2, 3, 4, 5, 6], [0, 1, 2, 3, 4, 5, 6, 7], [0, 1, 2, 3, 4, 5, 6, 7, 8], [0, 1, 2, 3, 4, 5, 6, 7, 8, 9]] [[], [], [], [], [], [], [], [], [], [], []] [.one (.agg #[.int .i64 c, .int .i64 s]), .one (.int .i64 Bg), .one (.int .i64 p), .one (.slice a1 n1 c1), .one (.int .i64 K), .one (.pointer (some ⟨w.heap.size, 1, none⟩)), .one (.int .i64 s), .one (.agg #[.int .i64 K, .int .i64 s]), .one (.bool R), .one (.bool R), .one (.int .i64 0)] (by kernel_rfl) (by kernel_rfl) (Ext.refl w3).drew ?_ ?_
          · refine stepsR_cons ?_ (stepsR_cons ?_ (stepsR_cons ?_ (stepsR_cons ?_ (stepsR_cons ?_ (stepsR_cons ?_ (stepsR_cons ?_ (stepsR_cons ?_ (stepsR_cons ?_ (stepsR_cons ?_ (stepsR_cons ?_ (trivial)))))))))))
            · intro vs W' hl hI hd ho
              obtain ⟨x0, v0, rfl, l0⟩ := len_cons hl; obtain ⟨x1, v1, rfl, l1⟩ := len_cons l0; obtain ⟨x2, v2, rfl, l2⟩ := len_cons l1; obtain ⟨x3, v3, rfl, l3⟩ := len_cons l2; obtain ⟨x4, v4, rfl, l4⟩ := len_cons l3; obtain ⟨x5, v5, rfl, l5⟩ := len_cons l4; obtain ⟨x6, v6, rfl, l6⟩ := len_cons l5; obtain ⟨x7, v7, rfl, l7⟩ := len_cons l6; obtain ⟨x8, v8, rfl, l8⟩ := len_cons l7; obtain ⟨x9, v9, rfl, l9⟩ := len_cons l8; obtain ⟨x10, v10, rfl, l10⟩ := len_cons l9; obtain rfl := len_nil l10; clear hl l0 l1 l2 l3 l4 l5 l6 l7 l8 l9 l10
              simp only [putAll, Act.put, List.setIfInBounds_toArray, List.set_cons_succ, List.set_cons_zero]
              have e1 := hI.cell f1
              have e0 := hI.cell f0
              go_wp2_with fail
              exact rely_done _ rfl rfl (Ext.refl _) hI
            · intro vs W' hl hI hd ho
              obtain ⟨x0, v0, rfl, l0⟩ := len_cons hl; obtain ⟨x1, v1, rfl, l1⟩ := len_cons l0; obtain ⟨x2, v2, rfl, l2⟩ := len_cons l1; obtain ⟨x3, v3, rfl, l3⟩ := len_cons l2; obtain ⟨x4, v4, rfl, l4⟩ := len_cons l3; obtain ⟨x5, v5, rfl, l5⟩ := len_cons l4; obtain ⟨x6, v6, rfl, l6⟩ := len_cons l5; obtain ⟨x7, v7, rfl, l7⟩ := len_cons l6; obtain ⟨x8, v8, rfl, l8⟩ := len_cons l7; obtain ⟨x9, v9, rfl, l9⟩ := len_cons l8; obtain ⟨x10, v10, rfl, l10⟩ := len_cons l9; obtain rfl := len_nil l10; clear hl l0 l1 l2 l3 l4 l5 l6 l7 l8 l9 l10
              simp only [putAll, Act.put, List.setIfInBounds_toArray, List.set_cons_succ, List.set_cons_zero]
              go_wp2_with fail
              exact rely_done _ rfl rfl (Ext.refl _) hI
            · intro vs W' hl hI hd ho
              obtain ⟨x0, v0, rfl, l0⟩ := len_cons hl; obtain ⟨x1, v1, rfl, l1⟩ := len_cons l0; obtain ⟨x2, v2, rfl, l2⟩ := len_cons l1; obtain ⟨x3, v3, rfl, l3⟩ := len_cons l2; obtain ⟨x4, v4, rfl, l4⟩ := len_cons l3; obtain ⟨x5, v5, rfl, l5⟩ := len_cons l4; obtain ⟨x6, v6, rfl, l6⟩ := len_cons l5; obtain ⟨x7, v7, rfl, l7⟩ := len_cons l6; obtain ⟨x8, v8, rfl, l8⟩ := len_cons l7; obtain ⟨x9, v9, rfl, l9⟩ := len_cons l8; obtain ⟨x10, v10, rfl, l10⟩ := len_cons l9; obtain rfl := len_nil l10; clear hl l0 l1 l2 l3 l4 l5 l6 l7 l8 l9 l10
              simp only [putAll, Act.put, List.setIfInBounds_toArray, List.set_cons_succ, List.set_cons_zero]
              go_wp2_with fail
              exact rely_done _ rfl rfl (Ext.refl _) hI
            · intro vs W' hl hI hd ho
              obtain ⟨x0, v0, rfl, l0⟩ := len_cons hl; obtain ⟨x1, v1, rfl, l1⟩ := len_cons l0; obtain ⟨x2, v2, rfl, l2⟩ := len_cons l1; obtain ⟨x3, v3, rfl, l3⟩ := len_cons l2; obtain ⟨x4, v4, rfl, l4⟩ := len_cons l3; obtain ⟨x5, v5, rfl, l5⟩ := len_cons l4; obtain ⟨x6, v6, rfl, l6⟩ := len_cons l5; obtain ⟨x7, v7, rfl, l7⟩ := len_cons l6; obtain ⟨x8, v8, rfl, l8⟩ := len_cons l7; obtain ⟨x9, v9, rfl, l9⟩ := len_cons l8; obtain ⟨x10, v10, rfl, l10⟩ := len_cons l9; obtain rfl := len_nil l10; clear hl l0 l1 l2 l3 l4 l5 l6 l7 l8 l9 l10
              simp only [putAll, Act.put, List.setIfInBounds_toArray, List.set_cons_succ, List.set_cons_zero]
              go_wp2_with fail
              exact rely_done _ rfl rfl (Ext.refl _) hI
            · intro vs W' hl hI hd ho
              obtain ⟨x0, v0, rfl, l0⟩ := len_cons hl; obtain ⟨x1, v1, rfl, l1⟩ := len_cons l0; obtain ⟨x2, v2, rfl, l2⟩ := len_cons l1; obtain ⟨x3, v3, rfl, l3⟩ := len_cons l2; obtain ⟨x4, v4, rfl, l4⟩ := len_cons l3; obtain ⟨x5, v5, rfl, l5⟩ := len_cons l4; obtain ⟨x6, v6, rfl, l6⟩ := len_cons l5; obtain ⟨x7, v7, rfl, l7⟩ := len_cons l6; obtain ⟨x8, v8, rfl, l8⟩ := len_cons l7; obtain ⟨x9, v9, rfl, l9⟩ := len_cons l8; obtain ⟨x10, v10, rfl, l10⟩ := len_cons l9; obtain rfl := len_nil l10; clear hl l0 l1 l2 l3 l4 l5 l6 l7 l8 l9 l10
              simp only [factsR, atR, List.getElem?_cons_succ, List.getElem?_cons_zero, Rel.one, Rel.blk] at hd
              obtain ⟨rfl, rfl, rfl, -⟩ := hd
              simp only [putAll, Act.put, List.setIfInBounds_toArray, List.set_cons_succ, List.set_cons_zero]
              go_wp2_with fail
              refine (HCH.out _ (h1.ext (hEw3.trans hI)) hn (TB.ext HT.out (hEw3.trans hI))).mono ?_
              rintro e w4 ⟨rfl, hE4⟩
              go_wp2_with fail
              exact rely_done _ rfl rfl hE4 (hI.trans hE4)
            · intro vs W' hl hI hd ho
              obtain ⟨x0, v0, rfl, l0⟩ := len_cons hl; obtain ⟨x1, v1, rfl, l1⟩ := len_cons l0; obtain ⟨x2, v2, rfl, l2⟩ := len_cons l1; obtain ⟨x3, v3, rfl, l3⟩ := len_cons l2; obtain ⟨x4, v4, rfl, l4⟩ := len_cons l3; obtain ⟨x5, v5, rfl, l5⟩ := len_cons l4; obtain ⟨x6, v6, rfl, l6⟩ := len_cons l5; obtain ⟨x7, v7, rfl, l7⟩ := len_cons l6; obtain ⟨x8, v8, rfl, l8⟩ := len_cons l7; obtain ⟨x9, v9, rfl, l9⟩ := len_cons l8; obtain ⟨x10, v10, rfl, l10⟩ := len_cons l9; obtain rfl := len_nil l10; clear hl l0 l1 l2 l3 l4 l5 l6 l7 l8 l9 l10
              simp only [putAll, Act.put, List.setIfInBounds_toArray, List.set_cons_succ, List.set_cons_zero]
              go_wp2_with fail
              exact rely_done _ rfl rfl (Ext.refl _) hI
            · intro vs W' hl hI hd ho
              obtain ⟨x0, v0, rfl, l0⟩ := len_cons hl; obtain ⟨x1, v1, rfl, l1⟩ := len_cons l0; obtain ⟨x2, v2, rfl, l2⟩ := len_cons l1; obtain ⟨x3, v3, rfl, l3⟩ := len_cons l2; obtain ⟨x4, v4, rfl, l4⟩ := len_cons l3; obtain ⟨x5, v5, rfl, l5⟩ := len_cons l4; obtain ⟨x6, v6, rfl, l6⟩ := len_cons l5; obtain ⟨x7, v7, rfl, l7⟩ := len_cons l6; obtain ⟨x8, v8, rfl, l8⟩ := len_cons l7; obtain ⟨x9, v9, rfl, l9⟩ := len_cons l8; obtain ⟨x10, v10, rfl, l10⟩ := len_cons l9; obtain rfl := len_nil l10; clear hl l0 l1 l2 l3 l4 l5 l6 l7 l8 l9 l10
              simp only [factsR, atR, List.getElem?_cons_succ, List.getElem?_cons_zero, Rel.one, Rel.blk] at hd
              obtain ⟨rfl, -⟩ := hd
              simp only [putAll, Act.put, List.setIfInBounds_toArray, List.set_cons_succ, List.set_cons_zero]
              have e1 := hI.cell f1
              go_wp2_with fail
              exact rely_done _ rfl rfl (Ext.refl _) hI
            · intro vs W' hl hI hd ho
              obtain ⟨x0, v0, rfl, l0⟩ := len_cons hl; obtain ⟨x1, v1, rfl, l1⟩ := len_cons l0; obtain ⟨x2, v2, rfl, l2⟩ := len_cons l1; obtain ⟨x3, v3, rfl, l3⟩ := len_cons l2; obtain ⟨x4, v4, rfl, l4⟩ := len_cons l3; obtain ⟨x5, v5, rfl, l5⟩ := len_cons l4; obtain ⟨x6, v6, rfl, l6⟩ := len_cons l5; obtain ⟨x7, v7, rfl, l7⟩ := len_cons l6; obtain ⟨x8, v8, rfl, l8⟩ := len_cons l7; obtain ⟨x9, v9, rfl, l9⟩ := len_cons l8; obtain ⟨x10, v10, rfl, l10⟩ := len_cons l9; obtain rfl := len_nil l10; clear hl l0 l1 l2 l3 l4 l5 l6 l7 l8 l9 l10
              simp only [factsR, atR, List.getElem?_cons_succ, List.getElem?_cons_zero, Rel.one, Rel.blk] at hd
              obtain ⟨rfl, rfl, rfl, rfl, rfl, rfl, -⟩ := hd
              simp only [putAll, Act.put, List.setIfInBounds_toArray, List.set_cons_succ, List.set_cons_zero]
              go_wp2_with fail
              exact rely_done _ rfl rfl (Ext.refl _) hI
            · intro vs W' hl hI hd ho
              obtain ⟨x0, v0, rfl, l0⟩ := len_cons hl; obtain ⟨x1, v1, rfl, l1⟩ := len_cons l0; obtain ⟨x2, v2, rfl, l2⟩ := len_cons l1; obtain ⟨x3, v3, rfl, l3⟩ := len_cons l2; obtain ⟨x4, v4, rfl, l4⟩ := len_cons l3; obtain ⟨x5, v5, rfl, l5⟩ := len_cons l4; obtain ⟨x6, v6, rfl, l6⟩ := len_cons l5; obtain ⟨x7, v7, rfl, l7⟩ := len_cons l6; obtain ⟨x8, v8, rfl, l8⟩ := len_cons l7; obtain ⟨x9, v9, rfl, l9⟩ := len_cons l8; obtain ⟨x10, v10, rfl, l10⟩ := len_cons l9; obtain rfl := len_nil l10; clear hl l0 l1 l2 l3 l4 l5 l6 l7 l8 l9 l10
              simp only [factsR, atR, List.getElem?_cons_succ, List.getElem?_cons_zero, Rel.one, Rel.blk] at hd
              obtain ⟨rfl, rfl, rfl, rfl, rfl, rfl, rfl, rfl, -⟩ := hd
              simp only [putAll, Act.put, List.setIfInBounds_toArray, List.set_cons_succ, List.set_cons_zero]
              go_wp2_with fail
              exact rely_done _ rfl rfl (Ext.refl _) hI
            · intro vs W' hl hI hd ho
              obtain ⟨x0, v0, rfl, l0⟩ := len_cons hl; obtain ⟨x1, v1, rfl, l1⟩ := len_cons l0; obtain ⟨x2, v2, rfl, l2⟩ := len_cons l1; obtain ⟨x3, v3, rfl, l3⟩ := len_cons l2; obtain ⟨x4, v4, rfl, l4⟩ := len_cons l3; obtain ⟨x5, v5, rfl, l5⟩ := len_cons l4; obtain ⟨x6, v6, rfl, l6⟩ := len_cons l5; obtain ⟨x7, v7, rfl, l7⟩ := len_cons l6; obtain ⟨x8, v8, rfl, l8⟩ := len_cons l7; obtain ⟨x9, v9, rfl, l9⟩ := len_cons l8; obtain ⟨x10, v10, rfl, l10⟩ := len_cons l9; obtain rfl := len_nil l10; clear hl l0 l1 l2 l3 l4 l5 l6 l7 l8 l9 l10
              simp only [factsR, atR, List.getElem?_cons_succ, List.getElem?_cons_zero, Rel.one, Rel.blk] at hd
              obtain ⟨rfl, rfl, rfl, rfl, rfl, rfl, rfl, rfl, rfl, -⟩ := hd
              simp only [putAll, Act.put, List.setIfInBounds_toArray, List.set_cons_succ, List.set_cons_zero]
              go_wp2_with fail
              exact rely_done _ rfl rfl (Ext.refl _) hI
            · intro vs W' hl hI hd ho
              obtain ⟨x0, v0, rfl, l0⟩ := len_cons hl; obtain ⟨x1, v1, rfl, l1⟩ := len_cons l0; obtain ⟨x2, v2, rfl, l2⟩ := len_cons l1; obtain ⟨x3, v3, rfl, l3⟩ := len_cons l2; obtain ⟨x4, v4, rfl, l4⟩ := len_cons l3; obtain ⟨x5, v5, rfl, l5⟩ := len_cons l4; obtain ⟨x6, v6, rfl, l6⟩ := len_cons l5; obtain ⟨x7, v7, rfl, l7⟩ := len_cons l6; obtain ⟨x8, v8, rfl, l8⟩ := len_cons l7; obtain ⟨x9, v9, rfl, l9⟩ := len_cons l8; obtain ⟨x10, v10, rfl, l10⟩ := len_cons l9; obtain rfl := len_nil l10; clear hl l0 l1 l2 l3 l4 l5 l6 l7 l8 l9 l10
              simp only [factsR, atR, List.getElem?_cons_succ, List.getElem?_cons_zero, Rel.one, Rel.blk] at hd
              obtain ⟨rfl, rfl, rfl, rfl, rfl, rfl, rfl, rfl, rfl, rfl, -⟩ := hd
              simp only [putAll, Act.put, List.setIfInBounds_toArray, List.set_cons_succ, List.set_cons_zero]
              go_wp2_with fail
              exact rely_done _ rfl rfl (Ext.refl _) hI
          · intro vs W' hl hI hd
            obtain ⟨x0, v0, rfl, l0⟩ := len_cons hl; obtain ⟨x1, v1, rfl, l1⟩ := len_cons l0; obtain ⟨x2, v2, rfl, l2⟩ := len_cons l1; obtain ⟨x3, v3, rfl, l3⟩ := len_cons l2; obtain ⟨x4, v4, rfl, l4⟩ := len_cons l3; obtain ⟨x5, v5, rfl, l5⟩ := len_cons l4; obtain ⟨x6, v6, rfl, l6⟩ := len_cons l5; obtain ⟨x7, v7, rfl, l7⟩ := len_cons l6; obtain ⟨x8, v8, rfl, l8⟩ := len_cons l7; obtain ⟨x9, v9, rfl, l9⟩ := len_cons l8; obtain ⟨x10, v10, rfl, l10⟩ := len_cons l9; obtain rfl := len_nil l10; clear hl l0 l1 l2 l3 l4 l5 l6 l7 l8 l9 l10
            simp only [List.length_cons, List.length_nil, List.range, List.range.loop, Nat.zero_add, Nat.reduceAdd, factsR, atR, List.getElem?_cons_succ, List.getElem?_cons_zero, Rel.one, Rel.blk] at hd
            obtain ⟨rfl, rfl, rfl, rfl, rfl, rfl, rfl, rfl, rfl, rfl, rfl, -⟩ := hd
            simp only [putAll, Act.put, List.setIfInBounds_toArray, List.set_cons_succ, List.set_cons_zero]
            go_wp2_with fail
            go_ret2
            exact ⟨rfl, hEw3.trans hI⟩

end Go.Proofs.YtacicanjmleikaaGreatDoor
