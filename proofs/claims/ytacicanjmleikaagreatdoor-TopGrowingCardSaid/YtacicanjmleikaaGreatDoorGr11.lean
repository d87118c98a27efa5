
import Derived.Test.YtacicanjmleikaaGreatDoorGr4
import Derived.Laws.StructEq
import Derived.Laws.Tables
import Derived.Laws.Cover2
import Derived.Deep.RegionWith
/- A part of the proof. -/
namespace Go.Proofs.YtacicanjmleikaaGreatDoor
open Go.RowKit Go.Sort Go.Shelf
set_option linter.unusedSimpArgs false
set_option linter.unusedVariables false
set_option maxRecDepth 100000
theorem eqSig (a b c d : Int) (w : World) : (Op.equalIn 10000 32 (.agg #[.int .i64 a, .int .i64 b]) (.agg #[.int .i64 c, .int .i64 d])).run Tryz.prog w = .ok (decide (a = c ∧ b = d)) w := by
 have u3 := Tryz.underlying3
 have a3 := Tryz.isAgg3
 have z3 := Tryz.sizeOf3
 have hS : Tryz.prog.underlying 32 = some (.struct (Tryz.prog.fieldsOf 32)) := by kernel_rfl
 have hp : Tryz.prog.stoodInHeld 32 = false := by kernel_rfl
 rw [show (10000 : Nat) = 9999 + 1 from rfl, run_equalIn_agg w 9999 32 _ _ hS hp]
 simp only [Program.fieldsOf, Tryz.underlying32]
 go_simp
 by_cases h1 : a = c <;> by_cases h2 : b = d <;> simp [h1, h2]
def sgOk (key once : Int) : Bool := inQ key 1 && inQ once 1
def sgC (key once : Int) (ms : List Int) : Int := if sgOk key once then chal (pw 2147483579 4 once.toNat : Nat) (pw 2147483579 4 key.toNat : Nat) ms else 0
def sgS (key once : Int) (ms : List Int) : Int := if sgOk key once then (once + sgC key once ms * key) % 1073741789 else 0
def sgE (key once : Int) : Int := if sgOk key once then 0 else 1
theorem res_sign (W : World) (b : Nat) (x y z : Int) (tmps : Array Value) (h6 : tmps[6]?.getD undef = .pointer (some ⟨b, 0, none⟩)) (h7 : tmps[7]?.getD undef = .int .i64 z)
  (c0 : W.cell? ⟨b, 0, none⟩ = some (.int .i64 x)) (c1 : W.cell? ⟨b, 1, none⟩ = some (.int .i64 y)) :
  (results Tryz.f29 tmps).run Tryz.prog W = .ok (.tuple #[.agg #[.int .i64 x, .int .i64 y], .int .i64 z]) W := by
 simp [results, Tryz.results29, go_sem, h6, h7, c0, c1]
theorem lin_mod (o c k : Int) (ho : 1 ≤ o ∧ o < 1073741789) (hc : 0 ≤ c ∧ c < 1073741789) (hk : 1 ≤ k ∧ k < 1073741789) : 0 ≤ c * k ∧ c * k ≤ 2000000000000000000 ∧ 0 ≤ o + c * k ∧ o + c * k ≤ 3000000000000000000 := by
 obtain ⟨n, rfl⟩ : ∃ n : Nat, c = n := ⟨c.toNat, by omega⟩
 obtain ⟨m, rfl⟩ : ∃ m : Nat, k = m := ⟨k.toNat, by omega⟩
 have h1 : n * m ≤ 1073741789 * 1073741789 := Nat.mul_le_mul (by omega) (by omega)
 have e : (n : Int) * m = ((n * m : Nat) : Int) := by push_cast; rfl
 rw [e]
 omega
theorem sign_any (key once : Int) (a1 : Option Addr) (n1 c1 : Nat) (ms : List Int) (w : World) (h1 : Sl .i64 w a1 n1 c1 ms) (hn : n1 ≤ 500) (ht : TB w) :
  Calls Tryz.prog 29 #[.int .i64 key, .int .i64 once, .slice a1 n1 c1] w fun e w' => e = .returned (.tuple #[.agg #[.int .i64 (sgC key once ms), .int .i64 (sgS key once ms)], .int .i64 (sgE key once)]) ∧ Ext w w' := by
 have b1 := h1.bd
 have HT := Lib.hid ht
 clear ht
 have hkk := fun w => within_any key 1 w
 have hoo := fun w => within_any once 1 w
 have HK := Lib.hid hkk
 have HO := Lib.hid hoo
 have lk := @inQ_lt key 1
 have lo := @inQ_lt once 1
 clear hkk hoo
 unfold sgS sgC sgE sgOk
 generalize inQ key 1 = A at *
 generalize inQ once 1 = B at *
 cases A
 ·go_enter Tryz.func29, Tryz.ntmps29
  go_wp2_with fail
  refine (HK.out _).mono ?_
  rintro e w' ⟨rfl, rfl⟩
  go_wp2_with fail
  try simp only [Exit.inBlock, Exit.then]
  exact bodyPost_ret (res_sign _ w.heap.size 0 0 1 _ (by rfl) (by rfl) (cell_of_block (World.alloc_heap_new w _) 0 _ rfl) (cell_of_block (World.alloc_heap_new w _) 1 _ rfl)) rfl ⟨rfl, (Ext.refl w).alloc _⟩
 ·cases B
  ·go_enter Tryz.func29, Tryz.ntmps29
   go_wp2_with fail
   refine (HK.out _).mono ?_
   rintro e w' ⟨rfl, rfl⟩
   go_wp2_with fail
   refine (HO.out _).mono ?_
   rintro e w' ⟨rfl, rfl⟩
   go_wp2_with fail
   try simp only [Exit.inBlock, Exit.then]
   exact bodyPost_ret (res_sign _ w.heap.size 0 0 1 _ (by rfl) (by rfl) (cell_of_block (World.alloc_heap_new w _) 0 _ rfl) (cell_of_block (World.alloc_heap_new w _) 1 _ rfl)) rfl ⟨rfl, (Ext.refl w).alloc _⟩
  ·have l1 := lk rfl
   have l2 := lo rfl
   clear lk lo
   simp only [Bool.and_self, if_true]
   have hp1 := fun w => power_any 4 once.toNat (by omega) (by omega) w
   have hp2 := fun w => power_any 4 key.toNat (by omega) (by omega) w
   rw [show ((once.toNat : Nat) : Int) = once by omega] at hp1
   rw [show ((key.toNat : Nat) : Int) = key by omega] at hp2
   have v1 := pw_lt (m := 2147483579) (a := 4) (x := once.toNat) (by omega)
   have v2 := pw_lt (m := 2147483579) (a := 4) (x := key.toNat) (by omega)
   generalize pw 2147483579 4 once.toNat = V1 at *
   generalize pw 2147483579 4 key.toNat = V2 at *
   have hch := fun w => challenge_any (V1 : Int) (V2 : Int) (by simp [Lit.wf, IntKind.min, IntKind.max, IntKind.signed, IntKind.bits]; omega) (by simp [Lit.wf, IntKind.min, IntKind.max, IntKind.signed, IntKind.bits]; omega) a1 n1 c1 ms w
   have hc := chal_lt (V1 : Int) (V2 : Int) ms
   have hl := lin_mod once _ key l2 hc l1
   generalize chal (V1 : Int) (V2 : Int) ms = C at *
   generalize hCK : C * key = CK at *
   have HP1 := Lib.hid hp1
   have HP2 := Lib.hid hp2
   have HC := Lib.hid hch
   clear hp1 hp2 hch
   go_enter Tryz.func29, Tryz.ntmps29
   go_wp2_with fail
   refine (HK.out _).mono ?_
   rintro e w' ⟨rfl, rfl⟩
   go_wp2_with fail
   refine (HO.out _).mono ?_
   rintro e w' ⟨rfl, rfl⟩
   go_wp2_with fail
   refine (HP1.out _).mono ?_
   have hE0 : Ext w (w.alloc (.cells #[.int .i64 0, .int .i64 0] 32)) := (Ext.refl w).alloc _
   rintro e w2 ⟨rfl, hE2⟩
   go_wp2_with fail
   refine (HP2.out _).mono ?_
   rintro e w3 ⟨rfl, hE3⟩
   have hE3' := hE2.trans hE3
   have hB3 := (hE3'.block _ (by simp)).trans (World.alloc_heap_new w _)
   have hE3w := hE0.trans hE3'
   clear hE0 hE3'
   go_wp2_with fail
   refine (HC.out w3 (h1.ext hE3w) hn (TB.ext HT.out hE3w)).mono ?_
   rintro e w4 ⟨rfl, hE4⟩
   have hB4 := (hE4.block _ (lt_of_block hB3)).trans hB3
   have d0 := cell_of_block hB4 0 _ rfl
   have d1 := cell_of_block hB4 1 _ rfl
   have d2 := free_of_block hB4
   have hE4w := hE3w.trans hE4
   clear hE4 hB3 hE3w
   go_wp2_with fail
   try simp only [Exit.inBlock, Exit.then]
   exact bodyPost_ret (res_sign _ w.heap.size C ((once + CK) % 1073741789) 0 _ (by rfl) (by rfl)
    (by rw [World.cell?_setCell_other _ _ _ _ (by simp)]; exact World.cell?_setCell_same _ _ _ d0)
    (World.cell?_setCell_same _ _ _ (by rw [World.cell?_setCell_other _ _ _ _ (by simp)]; exact d1))) rfl
    ⟨rfl, (hE4w.setCell (Nat.le_refl _) _).setCell (Nat.le_refl _) _⟩
open Go.RowKit Go.Sort Go.Shelf
def backN (pub C S : Nat) : Nat := pw 2147483579 4 S * pw 2147483579 pub ((1073741789 - C) % 1073741789) % 2147483579
theorem backN_lt (pub C S : Nat) : backN pub C S < 2147483579 := Nat.mod_lt _ (by omega)
theorem mulN (a b : Nat) (ha : a < 2147483579) (hb : b < 2147483579) : (a : Int) * b = ((a * b : Nat) : Int) ∧ a * b ≤ 4611686000000000000 := by
 have h1 : a * b ≤ 2147483578 * 2147483578 := Nat.mul_le_mul (by omega) (by omega)
 exact ⟨by push_cast; rfl, by omega⟩
open Go.RowKit Go.Sort Go.Shelf
def vOk (pub C S : Int) : Bool := memB pub && (inQ C 0 && inQ S 0)
def verB (pub C S : Int) (ms : List Int) : Bool := vOk pub C S && (chal (backN pub.toNat C.toNat S.toNat : Nat) pub ms == C)
def verE (pub C S : Int) : Int := if vOk pub C S then 0 else 1
theorem back_eq {pub C S : Nat} (h : memB pub = true) (hC : C < 1073741789) : backN pub C S = pw 2147483579 4 S * pw 2147483579 pub (1073741789 - C) % 2147483579 := by
 unfold backN
 by_cases h0 : C = 0
 ·subst h0
  have h1 : pw 2147483579 pub 1073741789 = 1 := by
   simp only [memB, Bool.and_eq_true, decide_eq_true_eq, beq_iff_eq, Int.toNat_natCast] at h
   omega
  rw [show (1073741789 - 0) % 1073741789 = 0 from rfl, show 1073741789 - 0 = 1073741789 from rfl, h1, pw_def 2147483579 pub 0, Nat.pow_zero]
 ·rw [Nat.mod_eq_of_lt (show 1073741789 - C < 1073741789 by omega)]
theorem wfN {n : Nat} (h : n < 2147483579) : (Lit.int .i64 (n : Int)).wf = true := by simp [Lit.wf, IntKind.min, IntKind.max, IntKind.signed, IntKind.bits]; omega
set_option maxHeartbeats 1000000 in
theorem verify_any (pub C S : Int) (a1 : Option Addr) (n1 c1 : Nat) (ms : List Int) (w : World) (h1 : Sl .i64 w a1 n1 c1 ms) (hn : n1 ≤ 500) (ht : TB w) :
  Calls Tryz.prog 88 #[.int .i64 pub, .agg #[.int .i64 C, .int .i64 S], .slice a1 n1 c1] w fun e w' => e = .returned (.tuple #[.bool (verB pub C S ms), .int .i64 (verE pub C S)]) ∧ Ext w w' := by
 have b1 := h1.bd
 have HT := Lib.hid ht
 clear ht
 have hm := fun w => member_any pub w
 have hc := fun w => within_any C 0 w
 have hs := fun w => within_any S 0 w
 have HM := Lib.hid hm
 have HC := Lib.hid hc
 have HS := Lib.hid hs
 have lm := @memB_lt pub
 have lc := @inQ_lt C 0
 have ls := @inQ_lt S 0
 have hbe := fun h => @back_eq pub.toNat C.toNat S.toNat h
 clear hm hc hs
 unfold verB verE vOk
 have hmm : memB ((pub.toNat : Nat) : Int) = memB pub ∨ memB pub = false := by
  by_cases h : 0 ≤ pub
  ·left; rw [show ((pub.toNat : Nat) : Int) = pub by omega]
  ·right; simp [memB]; omega
 generalize hA : memB pub = A at *
 generalize inQ C 0 = B at *
 generalize inQ S 0 = D at *
 have hB0 := World.alloc_heap_new w (.cells #[.int .i64 (C : Int), .int .i64 (S : Int)] 32)
 have hE0 : Ext w (w.alloc (.cells #[.int .i64 (C : Int), .int .i64 (S : Int)] 32)) := (Ext.refl w).alloc _
 cases A
 ·clear hB0 hE0 hbe hmm hA
  go_enter Tryz.func88, Tryz.ntmps88
  go_wp2_with fail
  refine (HM.out _).mono ?_
  rintro e w2 ⟨rfl, hE2⟩
  go_wp2_with fail
  go_ret2
  exact ⟨rfl, ((Ext.refl w).alloc _).trans hE2⟩
 ·cases B
  ·clear hbe hmm hA
   go_enter Tryz.func88, Tryz.ntmps88
   go_wp2_with fail
   refine (HM.out _).mono ?_
   rintro e w2 ⟨rfl, hE2⟩
   have hB2 := (hE2.block _ (by simp)).trans hB0
   have d0 := cell_of_block hB2 0 _ rfl
   have d1 := cell_of_block hB2 1 _ rfl
   go_wp2_with fail
   refine (HC.out _).mono ?_
   rintro e w' ⟨rfl, rfl⟩
   go_wp2_with fail
   go_ret2
   exact ⟨rfl, ((Ext.refl w).alloc _).trans hE2⟩
  ·cases D
   ·clear hbe hmm hA
    go_enter Tryz.func88, Tryz.ntmps88
    go_wp2_with fail
    refine (HM.out _).mono ?_
    rintro e w2 ⟨rfl, hE2⟩
    have hB2 := (hE2.block _ (by simp)).trans hB0
    have d0 := cell_of_block hB2 0 _ rfl
    have d1 := cell_of_block hB2 1 _ rfl
    go_wp2_with fail
    refine (HC.out _).mono ?_
    rintro e w' ⟨rfl, rfl⟩
    go_wp2_with fail
    refine (HS.out _).mono ?_
    rintro e w' ⟨rfl, rfl⟩
    go_wp2_with fail
    go_ret2
    exact ⟨rfl, ((Ext.refl w).alloc _).trans hE2⟩
   ·have l1 := lm rfl
    have l2 := lc rfl
    have l3 := ls rfl
    clear lm lc ls
    obtain ⟨p, rfl⟩ : ∃ p : Nat, pub = p := ⟨pub.toNat, by omega⟩
    obtain ⟨c, rfl⟩ : ∃ c : Nat, C = c := ⟨C.toNat, by omega⟩
    obtain ⟨s, rfl⟩ : ∃ s : Nat, S = s := ⟨S.toNat, by omega⟩
    simp only [Int.toNat_natCast, Bool.and_self, Bool.true_and, if_true] at *
    have hbk := hbe (by simpa using hA) (by omega)
    clear hbe hmm
    have hp1 := fun w => power_any 4 s (by omega) (by omega) w
    have hp2 := fun w => power_any p (1073741789 - c) (by omega) (by omega) w
    rw [show ((1073741789 - c : Nat) : Int) = 1073741789 - (c : Int) by omega] at hp2
    have v1 := pw_lt (m := 2147483579) (a := 4) (x := s) (by omega)
    have v2 := pw_lt (m := 2147483579) (a := p) (x := 1073741789 - c) (by omega)
    have vb := backN_lt p c s
    generalize hBg : backN p c s = Bg at *
    generalize pw 2147483579 4 s = V1 at *
    generalize pw 2147483579 p (1073741789 - c) = V2 at *
    obtain ⟨m1, m2⟩ := mulN V1 V2 v1 v2
    generalize hM : V1 * V2 = M at *
    have hbi : (M : Int) % 2147483579 = (Bg : Int) := by rw [hbk]; rfl
    have HB := Lib.hid hbi
    have hch := fun w => challenge_any (Bg : Int) (p : Int) (wfN (by omega)) (wfN (by omega)) a1 n1 c1 ms w
    have hcl := chal_lt (Bg : Int) (p : Int) ms
    generalize chal (Bg : Int) (p : Int) ms = K at *
    have hq := fun (w : World) => eqSig (c : Int) (s : Int) K (s : Int) w
    have hd : decide ((c : Int) = K ∧ (s : Int) = (s : Int)) = (K == (c : Int)) := by
     rw [Bool.eq_iff_iff]; simp; exact eq_comm
    rw [hd] at hq
    clear hd
    generalize (K == (c : Int)) = R at *
    have HP1 := Lib.hid hp1
    have HP2 := Lib.hid hp2
    have HCH := Lib.hid hch
    clear hp1 hp2 hch hbi hbk hBg hA
    go_enter Tryz.func88, Tryz.ntmps88
    go_wp2_with fail
    refine (HM.out _).mono ?_
    rintro e w2 ⟨rfl, hE2⟩
    have hB2 := (hE2.block _ (by simp)).trans hB0
    have d0 := cell_of_block hB2 0 _ rfl
    have d1 := cell_of_block hB2 1 _ rfl
    have hEw2 := hE0.trans hE2
    clear hE2 hB0 hE0
    go_wp2_with fail
    refine (HC.out _).mono ?_
    rintro e w5 ⟨rfl, hw5⟩
    rw [hw5]
    clear hw5 w5
    go_wp2_with fail
    refine (HS.out _).mono ?_
    rintro e w5 ⟨rfl, hw5⟩
    rw [hw5]
    clear hw5 w5
    go_wp2_with fail
    refine region_rely (S := Ext) (fun W' => Ext w2 W') [some 24, some 25, some 26, some 27, some 28, some 29, some 30, some 31, some 32, some 33, some 8] [[], [0], [0, 1], [], [], [4], [4, 5], [0, 1, 2, 3, 4, 5, 6], [0, 1, 2, 3, 4, 5, 6, 7], [0, 1, 2, 3, 4, 5, 6, 7, 8], [0, 1, 2, 3, 4, 5, 6, 7, 8, 9]] [[], [], [], [], [], [], [], [], [], [], []] [.one (.pointer (some ⟨w.heap.size, 1, none⟩)), .one (.int .i64 s), .one (.int .i64 V1), .one (.int .i64 p), .one (.pointer (some ⟨w.heap.size, 0, none⟩)), .one (.int .i64 c), .one (.int .i64 (1073741789 - (c : Int))), .one (.int .i64 V2), .one (.int .i64 M), .one (.int .i64 Bg), .one (.int .i64 Bg)] (by kernel_rfl) (by kernel_rfl) (Ext.refl w2).drew ?_ ?_
    ·refine stepsR_cons ?_ (stepsR_cons ?_ (stepsR_cons ?_ (stepsR_cons ?_ (stepsR_cons ?_ (stepsR_cons ?_ (stepsR_cons ?_ (stepsR_cons ?_ (stepsR_cons ?_ (stepsR_cons ?_ (stepsR_cons ?_ (trivial)))))))))))
     ·intro vs W' hl hI hd ho
      obtain ⟨x0, v0, rfl, l0⟩ := len_cons hl; obtain ⟨x1, v1, rfl, l1⟩ := len_cons l0; obtain ⟨x2, v2, rfl, l2⟩ := len_cons l1; obtain ⟨x3, v3, rfl, l3⟩ := len_cons l2; obtain ⟨x4, v4, rfl, l4⟩ := len_cons l3; obtain ⟨x5, v5, rfl, l5⟩ := len_cons l4; obtain ⟨x6, v6, rfl, l6⟩ := len_cons l5; obtain ⟨x7, v7, rfl, l7⟩ := len_cons l6; obtain ⟨x8, v8, rfl, l8⟩ := len_cons l7; obtain ⟨x9, v9, rfl, l9⟩ := len_cons l8; obtain ⟨x10, v10, rfl, l10⟩ := len_cons l9; obtain rfl := len_nil l10; clear hl l0 l1 l2 l3 l4 l5 l6 l7 l8 l9 l10
      simp only [putAll, Act.put, List.setIfInBounds_toArray, List.set_cons_succ, List.set_cons_zero]
      go_wp2_with fail
      exact rely_done _ rfl rfl (Ext.refl _) hI
     ·intro vs W' hl hI hd ho
      obtain ⟨x0, v0, rfl, l0⟩ := len_cons hl; obtain ⟨x1, v1, rfl, l1⟩ := len_cons l0; obtain ⟨x2, v2, rfl, l2⟩ := len_cons l1; obtain ⟨x3, v3, rfl, l3⟩ := len_cons l2; obtain ⟨x4, v4, rfl, l4⟩ := len_cons l3; obtain ⟨x5, v5, rfl, l5⟩ := len_cons l4; obtain ⟨x6, v6, rfl, l6⟩ := len_cons l5; obtain ⟨x7, v7, rfl, l7⟩ := len_cons l6; obtain ⟨x8, v8, rfl, l8⟩ := len_cons l7; obtain ⟨x9, v9, rfl, l9⟩ := len_cons l8; obtain ⟨x10, v10, rfl, l10⟩ := len_cons l9; obtain rfl := len_nil l10; clear hl l0 l1 l2 l3 l4 l5 l6 l7 l8 l9 l10
      simp only [factsR, atR, List.getElem?_cons_succ, List.getElem?_cons_zero, Rel.one, Rel.blk] at hd
      obtain ⟨rfl, -⟩ := hd
      simp only [putAll, Act.put, List.setIfInBounds_toArray, List.set_cons_succ, List.set_cons_zero]
      have e1 := hI.cell d1
      go_wp2_with fail
      exact rely_done _ rfl rfl (Ext.refl _) hI
     ·intro vs W' hl hI hd ho
      obtain ⟨x0, v0, rfl, l0⟩ := len_cons hl; obtain ⟨x1, v1, rfl, l1⟩ := len_cons l0; obtain ⟨x2, v2, rfl, l2⟩ := len_cons l1; obtain ⟨x3, v3, rfl, l3⟩ := len_cons l2; obtain ⟨x4, v4, rfl, l4⟩ := len_cons l3; obtain ⟨x5, v5, rfl, l5⟩ := len_cons l4; obtain ⟨x6, v6, rfl, l6⟩ := len_cons l5; obtain ⟨x7, v7, rfl, l7⟩ := len_cons l6; obtain ⟨x8, v8, rfl, l8⟩ := len_cons l7; obtain ⟨x9, v9, rfl, l9⟩ := len_cons l8; obtain ⟨x10, v10, rfl, l10⟩ := len_cons l9; obtain rfl := len_nil l10; clear hl l0 l1 l2 l3 l4 l5 l6 l7 l8 l9 l10
      simp only [factsR, atR, List.getElem?_cons_succ, List.getElem?_cons_zero, Rel.one, Rel.blk] at hd
      obtain ⟨rfl, rfl, -⟩ := hd
      simp only [putAll, Act.put, List.setIfInBounds_toArray, List.set_cons_succ, List.set_cons_zero]
      go_wp2_with fail
      refine (HP1.out _).mono ?_
      rintro e w3 ⟨rfl, hE3⟩
      go_wp2_with fail
      exact rely_done _ rfl rfl hE3 (hI.trans hE3)
     ·intro vs W' hl hI hd ho
      obtain ⟨x0, v0, rfl, l0⟩ := len_cons hl; obtain ⟨x1, v1, rfl, l1⟩ := len_cons l0; obtain ⟨x2, v2, rfl, l2⟩ := len_cons l1; obtain ⟨x3, v3, rfl, l3⟩ := len_cons l2; obtain ⟨x4, v4, rfl, l4⟩ := len_cons l3; obtain ⟨x5, v5, rfl, l5⟩ := len_cons l4; obtain ⟨x6, v6, rfl, l6⟩ := len_cons l5; obtain ⟨x7, v7, rfl, l7⟩ := len_cons l6; obtain ⟨x8, v8, rfl, l8⟩ := len_cons l7; obtain ⟨x9, v9, rfl, l9⟩ := len_cons l8; obtain ⟨x10, v10, rfl, l10⟩ := len_cons l9; obtain rfl := len_nil l10; clear hl l0 l1 l2 l3 l4 l5 l6 l7 l8 l9 l10
      simp only [putAll, Act.put, List.setIfInBounds_toArray, List.set_cons_succ, List.set_cons_zero]
      go_wp2_with fail
      exact rely_done _ rfl rfl (Ext.refl _) hI
     ·intro vs W' hl hI hd ho
      obtain ⟨x0, v0, rfl, l0⟩ := len_cons hl; obtain ⟨x1, v1, rfl, l1⟩ := len_cons l0; obtain ⟨x2, v2, rfl, l2⟩ := len_cons l1; obtain ⟨x3, v3, rfl, l3⟩ := len_cons l2; obtain ⟨x4, v4, rfl, l4⟩ := len_cons l3; obtain ⟨x5, v5, rfl, l5⟩ := len_cons l4; obtain ⟨x6, v6, rfl, l6⟩ := len_cons l5; obtain ⟨x7, v7, rfl, l7⟩ := len_cons l6; obtain ⟨x8, v8, rfl, l8⟩ := len_cons l7; obtain ⟨x9, v9, rfl, l9⟩ := len_cons l8; obtain ⟨x10, v10, rfl, l10⟩ := len_cons l9; obtain rfl := len_nil l10; clear hl l0 l1 l2 l3 l4 l5 l6 l7 l8 l9 l10
      simp only [putAll, Act.put, List.setIfInBounds_toArray, List.set_cons_succ, List.set_cons_zero]
      go_wp2_with fail
      exact rely_done _ rfl rfl (Ext.refl _) hI
     ·intro vs W' hl hI hd ho
      obtain ⟨x0, v0, rfl, l0⟩ := len_cons hl; obtain ⟨x1, v1, rfl, l1⟩ := len_cons l0; obtain ⟨x2, v2, rfl, l2⟩ := len_cons l1; obtain ⟨x3, v3, rfl, l3⟩ := len_cons l2; obtain ⟨x4, v4, rfl, l4⟩ := len_cons l3; obtain ⟨x5, v5, rfl, l5⟩ := len_cons l4; obtain ⟨x6, v6, rfl, l6⟩ := len_cons l5; obtain ⟨x7, v7, rfl, l7⟩ := len_cons l6; obtain ⟨x8, v8, rfl, l8⟩ := len_cons l7; obtain ⟨x9, v9, rfl, l9⟩ := len_cons l8; obtain ⟨x10, v10, rfl, l10⟩ := len_cons l9; obtain rfl := len_nil l10; clear hl l0 l1 l2 l3 l4 l5 l6 l7 l8 l9 l10
      simp only [factsR, atR, List.getElem?_cons_succ, List.getElem?_cons_zero, Rel.one, Rel.blk] at hd
      obtain ⟨rfl, -⟩ := hd
      simp only [putAll, Act.put, List.setIfInBounds_toArray, List.set_cons_succ, List.set_cons_zero]
      have e0 := hI.cell d0
      go_wp2_with fail
      exact rely_done _ rfl rfl (Ext.refl _) hI
     ·intro vs W' hl hI hd ho
      obtain ⟨x0, v0, rfl, l0⟩ := len_cons hl; obtain ⟨x1, v1, rfl, l1⟩ := len_cons l0; obtain ⟨x2, v2, rfl, l2⟩ := len_cons l1; obtain ⟨x3, v3, rfl, l3⟩ := len_cons l2; obtain ⟨x4, v4, rfl, l4⟩ := len_cons l3; obtain ⟨x5, v5, rfl, l5⟩ := len_cons l4; obtain ⟨x6, v6, rfl, l6⟩ := len_cons l5; obtain ⟨x7, v7, rfl, l7⟩ := len_cons l6; obtain ⟨x8, v8, rfl, l8⟩ := len_cons l7; obtain ⟨x9, v9, rfl, l9⟩ := len_cons l8; obtain ⟨x10, v10, rfl, l10⟩ := len_cons l9; obtain rfl := len_nil l10; clear hl l0 l1 l2 l3 l4 l5 l6 l7 l8 l9 l10
      simp only [factsR, atR, List.getElem?_cons_succ, List.getElem?_cons_zero, Rel.one, Rel.blk] at hd
      obtain ⟨rfl, rfl, -⟩ := hd
      simp only [putAll, Act.put, List.setIfInBounds_toArray, List.set_cons_succ, List.set_cons_zero]
      go_wp2_with fail
      exact rely_done _ rfl rfl (Ext.refl _) hI
     ·intro vs W' hl hI hd ho
      obtain ⟨x0, v0, rfl, l0⟩ := len_cons hl; obtain ⟨x1, v1, rfl, l1⟩ := len_cons l0; obtain ⟨x2, v2, rfl, l2⟩ := len_cons l1; obtain ⟨x3, v3, rfl, l3⟩ := len_cons l2; obtain ⟨x4, v4, rfl, l4⟩ := len_cons l3; obtain ⟨x5, v5, rfl, l5⟩ := len_cons l4; obtain ⟨x6, v6, rfl, l6⟩ := len_cons l5; obtain ⟨x7, v7, rfl, l7⟩ := len_cons l6; obtain ⟨x8, v8, rfl, l8⟩ := len_cons l7; obtain ⟨x9, v9, rfl, l9⟩ := len_cons l8; obtain ⟨x10, v10, rfl, l10⟩ := len_cons l9; obtain rfl := len_nil l10; clear hl l0 l1 l2 l3 l4 l5 l6 l7 l8 l9 l10
      simp only [factsR, atR, List.getElem?_cons_succ, List.getElem?_cons_zero, Rel.one, Rel.blk] at hd
      obtain ⟨rfl, rfl, rfl, rfl, rfl, rfl, rfl, -⟩ := hd
      simp only [putAll, Act.put, List.setIfInBounds_toArray, List.set_cons_succ, List.set_cons_zero]
      go_wp2_with fail
      refine (HP2.out _).mono ?_
      rintro e w3 ⟨rfl, hE3⟩
      go_wp2_with fail
      exact rely_done _ rfl rfl hE3 (hI.trans hE3)
     ·intro vs W' hl hI hd ho
      obtain ⟨x0, v0, rfl, l0⟩ := len_cons hl; obtain ⟨x1, v1, rfl, l1⟩ := len_cons l0; obtain ⟨x2, v2, rfl, l2⟩ := len_cons l1; obtain ⟨x3, v3, rfl, l3⟩ := len_cons l2; obtain ⟨x4, v4, rfl, l4⟩ := len_cons l3; obtain ⟨x5, v5, rfl, l5⟩ := len_cons l4; obtain ⟨x6, v6, rfl, l6⟩ := len_cons l5; obtain ⟨x7, v7, rfl, l7⟩ := len_cons l6; obtain ⟨x8, v8, rfl, l8⟩ := len_cons l7; obtain ⟨x9, v9, rfl, l9⟩ := len_cons l8; obtain ⟨x10, v10, rfl, l10⟩ := len_cons l9; obtain rfl := len_nil l10; clear hl l0 l1 l2 l3 l4 l5 l6 l7 l8 l9 l10
      simp only [factsR, atR, List.getElem?_cons_succ, List.getElem?_cons_zero, Rel.one, Rel.blk] at hd
      obtain ⟨rfl, rfl, rfl, rfl, rfl, rfl, rfl, rfl, -⟩ := hd
      simp only [putAll, Act.put, List.setIfInBounds_toArray, List.set_cons_succ, List.set_cons_zero]
      go_wp2_with fail
      exact rely_done _ rfl rfl (Ext.refl _) hI
     ·intro vs W' hl hI hd ho
      obtain ⟨x0, v0, rfl, l0⟩ := len_cons hl; obtain ⟨x1, v1, rfl, l1⟩ := len_cons l0; obtain ⟨x2, v2, rfl, l2⟩ := len_cons l1; obtain ⟨x3, v3, rfl, l3⟩ := len_cons l2; obtain ⟨x4, v4, rfl, l4⟩ := len_cons l3; obtain ⟨x5, v5, rfl, l5⟩ := len_cons l4; obtain ⟨x6, v6, rfl, l6⟩ := len_cons l5; obtain ⟨x7, v7, rfl, l7⟩ := len_cons l6; obtain ⟨x8, v8, rfl, l8⟩ := len_cons l7; obtain ⟨x9, v9, rfl, l9⟩ := len_cons l8; obtain ⟨x10, v10, rfl, l10⟩ := len_cons l9; obtain rfl := len_nil l10; clear hl l0 l1 l2 l3 l4 l5 l6 l7 l8 l9 l10
      simp only [factsR, atR, List.getElem?_cons_succ, List.getElem?_cons_zero, Rel.one, Rel.blk] at hd
      obtain ⟨rfl, rfl, rfl, rfl, rfl, rfl, rfl, rfl, rfl, -⟩ := hd
      simp only [putAll, Act.put, List.setIfInBounds_toArray, List.set_cons_succ, List.set_cons_zero]
      go_wp2_with fail
      exact rely_done _ rfl (by show Value.int .i64 _ = Value.int .i64 _; exact congrArg _ HB.out) (Ext.refl _) hI
     ·intro vs W' hl hI hd ho
      obtain ⟨x0, v0, rfl, l0⟩ := len_cons hl; obtain ⟨x1, v1, rfl, l1⟩ := len_cons l0; obtain ⟨x2, v2, rfl, l2⟩ := len_cons l1; obtain ⟨x3, v3, rfl, l3⟩ := len_cons l2; obtain ⟨x4, v4, rfl, l4⟩ := len_cons l3; obtain ⟨x5, v5, rfl, l5⟩ := len_cons l4; obtain ⟨x6, v6, rfl, l6⟩ := len_cons l5; obtain ⟨x7, v7, rfl, l7⟩ := len_cons l6; obtain ⟨x8, v8, rfl, l8⟩ := len_cons l7; obtain ⟨x9, v9, rfl, l9⟩ := len_cons l8; obtain ⟨x10, v10, rfl, l10⟩ := len_cons l9; obtain rfl := len_nil l10; clear hl l0 l1 l2 l3 l4 l5 l6 l7 l8 l9 l10
      simp only [factsR, atR, List.getElem?_cons_succ, List.getElem?_cons_zero, Rel.one, Rel.blk] at hd
      obtain ⟨rfl, rfl, rfl, rfl, rfl, rfl, rfl, rfl, rfl, rfl, -⟩ := hd
      simp only [putAll, Act.put, List.setIfInBounds_toArray, List.set_cons_succ, List.set_cons_zero]
      go_wp2_with fail
      exact rely_done _ rfl rfl (Ext.refl _) hI
    ·intro vs W' hl hI hd
     obtain ⟨x0, v0, rfl, l0⟩ := len_cons hl; obtain ⟨x1, v1, rfl, l1⟩ := len_cons l0; obtain ⟨x2, v2, rfl, l2⟩ := len_cons l1; obtain ⟨x3, v3, rfl, l3⟩ := len_cons l2; obtain ⟨x4, v4, rfl, l4⟩ := len_cons l3; obtain ⟨x5, v5, rfl, l5⟩ := len_cons l4; obtain ⟨x6, v6, rfl, l6⟩ := len_cons l5; obtain ⟨x7, v7, rfl, l7⟩ := len_cons l6; obtain ⟨x8, v8, rfl, l8⟩ := len_cons l7; obtain ⟨x9, v9, rfl, l9⟩ := len_cons l8; obtain ⟨x10, v10, rfl, l10⟩ := len_cons l9; obtain rfl := len_nil l10; clear hl l0 l1 l2 l3 l4 l5 l6 l7 l8 l9 l10
     simp only [List.length_cons, List.length_nil, List.range, List.range.loop, Nat.zero_add, Nat.reduceAdd, factsR, atR, List.getElem?_cons_succ, List.getElem?_cons_zero, Rel.one, Rel.blk] at hd
     obtain ⟨rfl, rfl, rfl, rfl, rfl, rfl, rfl, rfl, rfl, rfl, rfl, -⟩ := hd
     simp only [putAll, Act.put, List.setIfInBounds_toArray, List.set_cons_succ, List.set_cons_zero]
     have hEw3 := hEw2.trans hI
     have f0 := hI.cell d0
     have f1 := hI.cell d1
     clear hI d0 d1
     generalize W' = w3 at *
     go_wp2_with fail
     refine region_rely (S := Ext) (fun W' => Ext w3 W') [some 34, some 35, some 36, some 37, some 38, some 39, some 40, some 41, some 42, some 6, some 7] [[], [], [], [], [1, 2, 3], [], [5], [1, 2, 3, 4, 5, 6], [0, 1, 2, 3, 4, 5, 6, 7], [0, 1, 2, 3, 4, 5, 6, 7, 8], [0, 1, 2, 3, 4, 5, 6, 7, 8, 9]] [[], [], [], [], [], [], [], [], [], [], []] [.one (.agg #[.int .i64 c, .int .i64 s]), .one (.int .i64 Bg), .one (.int .i64 p), .one (.slice a1 n1 c1), .one (.int .i64 K), .one (.pointer (some ⟨w.heap.size, 1, none⟩)), .one (.int .i64 s), .one (.agg #[.int .i64 K, .int .i64 s]), .one (.bool R), .one (.bool R), .one (.int .i64 0)] (by kernel_rfl) (by kernel_rfl) (Ext.refl w3).drew ?_ ?_
     ·refine stepsR_cons ?_ (stepsR_cons ?_ (stepsR_cons ?_ (stepsR_cons ?_ (stepsR_cons ?_ (stepsR_cons ?_ (stepsR_cons ?_ (stepsR_cons ?_ (stepsR_cons ?_ (stepsR_cons ?_ (stepsR_cons ?_ (trivial)))))))))))
      ·intro vs W' hl hI hd ho
       obtain ⟨x0, v0, rfl, l0⟩ := len_cons hl; obtain ⟨x1, v1, rfl, l1⟩ := len_cons l0; obtain ⟨x2, v2, rfl, l2⟩ := len_cons l1; obtain ⟨x3, v3, rfl, l3⟩ := len_cons l2; obtain ⟨x4, v4, rfl, l4⟩ := len_cons l3; obtain ⟨x5, v5, rfl, l5⟩ := len_cons l4; obtain ⟨x6, v6, rfl, l6⟩ := len_cons l5; obtain ⟨x7, v7, rfl, l7⟩ := len_cons l6; obtain ⟨x8, v8, rfl, l8⟩ := len_cons l7; obtain ⟨x9, v9, rfl, l9⟩ := len_cons l8; obtain ⟨x10, v10, rfl, l10⟩ := len_cons l9; obtain rfl := len_nil l10; clear hl l0 l1 l2 l3 l4 l5 l6 l7 l8 l9 l10
       simp only [putAll, Act.put, List.setIfInBounds_toArray, List.set_cons_succ, List.set_cons_zero]
       have e1 := hI.cell f1
       have e0 := hI.cell f0
       go_wp2_with fail
       exact rely_done _ rfl rfl (Ext.refl _) hI
      ·intro vs W' hl hI hd ho
       obtain ⟨x0, v0, rfl, l0⟩ := len_cons hl; obtain ⟨x1, v1, rfl, l1⟩ := len_cons l0; obtain ⟨x2, v2, rfl, l2⟩ := len_cons l1; obtain ⟨x3, v3, rfl, l3⟩ := len_cons l2; obtain ⟨x4, v4, rfl, l4⟩ := len_cons l3; obtain ⟨x5, v5, rfl, l5⟩ := len_cons l4; obtain ⟨x6, v6, rfl, l6⟩ := len_cons l5; obtain ⟨x7, v7, rfl, l7⟩ := len_cons l6; obtain ⟨x8, v8, rfl, l8⟩ := len_cons l7; obtain ⟨x9, v9, rfl, l9⟩ := len_cons l8; obtain ⟨x10, v10, rfl, l10⟩ := len_cons l9; obtain rfl := len_nil l10; clear hl l0 l1 l2 l3 l4 l5 l6 l7 l8 l9 l10
       simp only [putAll, Act.put, List.setIfInBounds_toArray, List.set_cons_succ, List.set_cons_zero]
       go_wp2_with fail
       exact rely_done _ rfl rfl (Ext.refl _) hI
      ·intro vs W' hl hI hd ho
       obtain ⟨x0, v0, rfl, l0⟩ := len_cons hl; obtain ⟨x1, v1, rfl, l1⟩ := len_cons l0; obtain ⟨x2, v2, rfl, l2⟩ := len_cons l1; obtain ⟨x3, v3, rfl, l3⟩ := len_cons l2; obtain ⟨x4, v4, rfl, l4⟩ := len_cons l3; obtain ⟨x5, v5, rfl, l5⟩ := len_cons l4; obtain ⟨x6, v6, rfl, l6⟩ := len_cons l5; obtain ⟨x7, v7, rfl, l7⟩ := len_cons l6; obtain ⟨x8, v8, rfl, l8⟩ := len_cons l7; obtain ⟨x9, v9, rfl, l9⟩ := len_cons l8; obtain ⟨x10, v10, rfl, l10⟩ := len_cons l9; obtain rfl := len_nil l10; clear hl l0 l1 l2 l3 l4 l5 l6 l7 l8 l9 l10
       simp only [putAll, Act.put, List.setIfInBounds_toArray, List.set_cons_succ, List.set_cons_zero]
       go_wp2_with fail
       exact rely_done _ rfl rfl (Ext.refl _) hI
      ·intro vs W' hl hI hd ho
       obtain ⟨x0, v0, rfl, l0⟩ := len_cons hl; obtain ⟨x1, v1, rfl, l1⟩ := len_cons l0; obtain ⟨x2, v2, rfl, l2⟩ := len_cons l1; obtain ⟨x3, v3, rfl, l3⟩ := len_cons l2; obtain ⟨x4, v4, rfl, l4⟩ := len_cons l3; obtain ⟨x5, v5, rfl, l5⟩ := len_cons l4; obtain ⟨x6, v6, rfl, l6⟩ := len_cons l5; obtain ⟨x7, v7, rfl, l7⟩ := len_cons l6; obtain ⟨x8, v8, rfl, l8⟩ := len_cons l7; obtain ⟨x9, v9, rfl, l9⟩ := len_cons l8; obtain ⟨x10, v10, rfl, l10⟩ := len_cons l9; obtain rfl := len_nil l10; clear hl l0 l1 l2 l3 l4 l5 l6 l7 l8 l9 l10
       simp only [putAll, Act.put, List.setIfInBounds_toArray, List.set_cons_succ, List.set_cons_zero]
       go_wp2_with fail
       exact rely_done _ rfl rfl (Ext.refl _) hI
      ·intro vs W' hl hI hd ho
       obtain ⟨x0, v0, rfl, l0⟩ := len_cons hl; obtain ⟨x1, v1, rfl, l1⟩ := len_cons l0; obtain ⟨x2, v2, rfl, l2⟩ := len_cons l1; obtain ⟨x3, v3, rfl, l3⟩ := len_cons l2; obtain ⟨x4, v4, rfl, l4⟩ := len_cons l3; obtain ⟨x5, v5, rfl, l5⟩ := len_cons l4; obtain ⟨x6, v6, rfl, l6⟩ := len_cons l5; obtain ⟨x7, v7, rfl, l7⟩ := len_cons l6; obtain ⟨x8, v8, rfl, l8⟩ := len_cons l7; obtain ⟨x9, v9, rfl, l9⟩ := len_cons l8; obtain ⟨x10, v10, rfl, l10⟩ := len_cons l9; obtain rfl := len_nil l10; clear hl l0 l1 l2 l3 l4 l5 l6 l7 l8 l9 l10
       simp only [factsR, atR, List.getElem?_cons_succ, List.getElem?_cons_zero, Rel.one, Rel.blk] at hd
       obtain ⟨rfl, rfl, rfl, -⟩ := hd
       simp only [putAll, Act.put, List.setIfInBounds_toArray, List.set_cons_succ, List.set_cons_zero]
       go_wp2_with fail
       refine (HCH.out _ (h1.ext (hEw3.trans hI)) hn (TB.ext HT.out (hEw3.trans hI))).mono ?_
       rintro e w4 ⟨rfl, hE4⟩
       go_wp2_with fail
       exact rely_done _ rfl rfl hE4 (hI.trans hE4)
      ·intro vs W' hl hI hd ho
       obtain ⟨x0, v0, rfl, l0⟩ := len_cons hl; obtain ⟨x1, v1, rfl, l1⟩ := len_cons l0; obtain ⟨x2, v2, rfl, l2⟩ := len_cons l1; obtain ⟨x3, v3, rfl, l3⟩ := len_cons l2; obtain ⟨x4, v4, rfl, l4⟩ := len_cons l3; obtain ⟨x5, v5, rfl, l5⟩ := len_cons l4; obtain ⟨x6, v6, rfl, l6⟩ := len_cons l5; obtain ⟨x7, v7, rfl, l7⟩ := len_cons l6; obtain ⟨x8, v8, rfl, l8⟩ := len_cons l7; obtain ⟨x9, v9, rfl, l9⟩ := len_cons l8; obtain ⟨x10, v10, rfl, l10⟩ := len_cons l9; obtain rfl := len_nil l10; clear hl l0 l1 l2 l3 l4 l5 l6 l7 l8 l9 l10
       simp only [putAll, Act.put, List.setIfInBounds_toArray, List.set_cons_succ, List.set_cons_zero]
       go_wp2_with fail
       exact rely_done _ rfl rfl (Ext.refl _) hI
      ·intro vs W' hl hI hd ho
       obtain ⟨x0, v0, rfl, l0⟩ := len_cons hl; obtain ⟨x1, v1, rfl, l1⟩ := len_cons l0; obtain ⟨x2, v2, rfl, l2⟩ := len_cons l1; obtain ⟨x3, v3, rfl, l3⟩ := len_cons l2; obtain ⟨x4, v4, rfl, l4⟩ := len_cons l3; obtain ⟨x5, v5, rfl, l5⟩ := len_cons l4; obtain ⟨x6, v6, rfl, l6⟩ := len_cons l5; obtain ⟨x7, v7, rfl, l7⟩ := len_cons l6; obtain ⟨x8, v8, rfl, l8⟩ := len_cons l7; obtain ⟨x9, v9, rfl, l9⟩ := len_cons l8; obtain ⟨x10, v10, rfl, l10⟩ := len_cons l9; obtain rfl := len_nil l10; clear hl l0 l1 l2 l3 l4 l5 l6 l7 l8 l9 l10
       simp only [factsR, atR, List.getElem?_cons_succ, List.getElem?_cons_zero, Rel.one, Rel.blk] at hd
       obtain ⟨rfl, -⟩ := hd
       simp only [putAll, Act.put, List.setIfInBounds_toArray, List.set_cons_succ, List.set_cons_zero]
       have e1 := hI.cell f1
       go_wp2_with fail
       exact rely_done _ rfl rfl (Ext.refl _) hI
      ·intro vs W' hl hI hd ho
       obtain ⟨x0, v0, rfl, l0⟩ := len_cons hl; obtain ⟨x1, v1, rfl, l1⟩ := len_cons l0; obtain ⟨x2, v2, rfl, l2⟩ := len_cons l1; obtain ⟨x3, v3, rfl, l3⟩ := len_cons l2; obtain ⟨x4, v4, rfl, l4⟩ := len_cons l3; obtain ⟨x5, v5, rfl, l5⟩ := len_cons l4; obtain ⟨x6, v6, rfl, l6⟩ := len_cons l5; obtain ⟨x7, v7, rfl, l7⟩ := len_cons l6; obtain ⟨x8, v8, rfl, l8⟩ := len_cons l7; obtain ⟨x9, v9, rfl, l9⟩ := len_cons l8; obtain ⟨x10, v10, rfl, l10⟩ := len_cons l9; obtain rfl := len_nil l10; clear hl l0 l1 l2 l3 l4 l5 l6 l7 l8 l9 l10
       simp only [factsR, atR, List.getElem?_cons_succ, List.getElem?_cons_zero, Rel.one, Rel.blk] at hd
       obtain ⟨rfl, rfl, rfl, rfl, rfl, rfl, -⟩ := hd
       simp only [putAll, Act.put, List.setIfInBounds_toArray, List.set_cons_succ, List.set_cons_zero]
       go_wp2_with fail
       exact rely_done _ rfl rfl (Ext.refl _) hI
      ·intro vs W' hl hI hd ho
       obtain ⟨x0, v0, rfl, l0⟩ := len_cons hl; obtain ⟨x1, v1, rfl, l1⟩ := len_cons l0; obtain ⟨x2, v2, rfl, l2⟩ := len_cons l1; obtain ⟨x3, v3, rfl, l3⟩ := len_cons l2; obtain ⟨x4, v4, rfl, l4⟩ := len_cons l3; obtain ⟨x5, v5, rfl, l5⟩ := len_cons l4; obtain ⟨x6, v6, rfl, l6⟩ := len_cons l5; obtain ⟨x7, v7, rfl, l7⟩ := len_cons l6; obtain ⟨x8, v8, rfl, l8⟩ := len_cons l7; obtain ⟨x9, v9, rfl, l9⟩ := len_cons l8; obtain ⟨x10, v10, rfl, l10⟩ := len_cons l9; obtain rfl := len_nil l10; clear hl l0 l1 l2 l3 l4 l5 l6 l7 l8 l9 l10
       simp only [factsR, atR, List.getElem?_cons_succ, List.getElem?_cons_zero, Rel.one, Rel.blk] at hd
       obtain ⟨rfl, rfl, rfl, rfl, rfl, rfl, rfl, rfl, -⟩ := hd
       simp only [putAll, Act.put, List.setIfInBounds_toArray, List.set_cons_succ, List.set_cons_zero]
       go_wp2_with fail
       exact rely_done _ rfl rfl (Ext.refl _) hI
      ·intro vs W' hl hI hd ho
       obtain ⟨x0, v0, rfl, l0⟩ := len_cons hl; obtain ⟨x1, v1, rfl, l1⟩ := len_cons l0; obtain ⟨x2, v2, rfl, l2⟩ := len_cons l1; obtain ⟨x3, v3, rfl, l3⟩ := len_cons l2; obtain ⟨x4, v4, rfl, l4⟩ := len_cons l3; obtain ⟨x5, v5, rfl, l5⟩ := len_cons l4; obtain ⟨x6, v6, rfl, l6⟩ := len_cons l5; obtain ⟨x7, v7, rfl, l7⟩ := len_cons l6; obtain ⟨x8, v8, rfl, l8⟩ := len_cons l7; obtain ⟨x9, v9, rfl, l9⟩ := len_cons l8; obtain ⟨x10, v10, rfl, l10⟩ := len_cons l9; obtain rfl := len_nil l10; clear hl l0 l1 l2 l3 l4 l5 l6 l7 l8 l9 l10
       simp only [factsR, atR, List.getElem?_cons_succ, List.getElem?_cons_zero, Rel.one, Rel.blk] at hd
       obtain ⟨rfl, rfl, rfl, rfl, rfl, rfl, rfl, rfl, rfl, -⟩ := hd
       simp only [putAll, Act.put, List.setIfInBounds_toArray, List.set_cons_succ, List.set_cons_zero]
       go_wp2_with fail
       exact rely_done _ rfl rfl (Ext.refl _) hI
      ·intro vs W' hl hI hd ho
       obtain ⟨x0, v0, rfl, l0⟩ := len_cons hl; obtain ⟨x1, v1, rfl, l1⟩ := len_cons l0; obtain ⟨x2, v2, rfl, l2⟩ := len_cons l1; obtain ⟨x3, v3, rfl, l3⟩ := len_cons l2; obtain ⟨x4, v4, rfl, l4⟩ := len_cons l3; obtain ⟨x5, v5, rfl, l5⟩ := len_cons l4; obtain ⟨x6, v6, rfl, l6⟩ := len_cons l5; obtain ⟨x7, v7, rfl, l7⟩ := len_cons l6; obtain ⟨x8, v8, rfl, l8⟩ := len_cons l7; obtain ⟨x9, v9, rfl, l9⟩ := len_cons l8; obtain ⟨x10, v10, rfl, l10⟩ := len_cons l9; obtain rfl := len_nil l10; clear hl l0 l1 l2 l3 l4 l5 l6 l7 l8 l9 l10
       simp only [factsR, atR, List.getElem?_cons_succ, List.getElem?_cons_zero, Rel.one, Rel.blk] at hd
       obtain ⟨rfl, rfl, rfl, rfl, rfl, rfl, rfl, rfl, rfl, rfl, -⟩ := hd
       simp only [putAll, Act.put, List.setIfInBounds_toArray, List.set_cons_succ, List.set_cons_zero]
       go_wp2_with fail
       exact rely_done _ rfl rfl (Ext.refl _) hI
     ·intro vs W' hl hI hd
      obtain ⟨x0, v0, rfl, l0⟩ := len_cons hl; obtain ⟨x1, v1, rfl, l1⟩ := len_cons l0; obtain ⟨x2, v2, rfl, l2⟩ := len_cons l1; obtain ⟨x3, v3, rfl, l3⟩ := len_cons l2; obtain ⟨x4, v4, rfl, l4⟩ := len_cons l3; obtain ⟨x5, v5, rfl, l5⟩ := len_cons l4; obtain ⟨x6, v6, rfl, l6⟩ := len_cons l5; obtain ⟨x7, v7, rfl, l7⟩ := len_cons l6; obtain ⟨x8, v8, rfl, l8⟩ := len_cons l7; obtain ⟨x9, v9, rfl, l9⟩ := len_cons l8; obtain ⟨x10, v10, rfl, l10⟩ := len_cons l9; obtain rfl := len_nil l10; clear hl l0 l1 l2 l3 l4 l5 l6 l7 l8 l9 l10
      simp only [List.length_cons, List.length_nil, List.range, List.range.loop, Nat.zero_add, Nat.reduceAdd, factsR, atR, List.getElem?_cons_succ, List.getElem?_cons_zero, Rel.one, Rel.blk] at hd
      obtain ⟨rfl, rfl, rfl, rfl, rfl, rfl, rfl, rfl, rfl, rfl, rfl, -⟩ := hd
      simp only [putAll, Act.put, List.setIfInBounds_toArray, List.set_cons_succ, List.set_cons_zero]
      go_wp2_with fail
      go_ret2
      exact ⟨rfl, hEw3.trans hI⟩
open Go.RowKit Go.Sort Go.Shelf
theorem memB_elem {a : Nat} : memB (a : Int) = true ↔ Elem a := by
 have e1 : pP = 2147483579 := rfl
 have e2 : pQ = 1073741789 := rfl
 constructor
 ·intro h
  simp only [memB, Bool.and_eq_true, decide_eq_true_eq, beq_iff_eq, Int.toNat_natCast] at h
  refine ⟨by rw [e1]; omega, ?_⟩
  have h3 : pw pP a pQ = 1 := by have := h.2.2; rw [e1, e2]; omega
  rw [← pw_def]
  exact h3
 ·intro h
  have h0 := h.pos
  have h1 := h.lt
  have h2 := h.one
  rw [e1] at h1
  rw [← pw_def, e1, e2] at h2
  simp only [memB, Bool.and_eq_true, decide_eq_true_eq, beq_iff_eq, Int.toNat_natCast]
  exact ⟨by omega, by omega, by omega⟩
theorem memB_pw (x : Nat) : memB ((pw 2147483579 4 x : Nat) : Int) = true := memB_elem.2 (by rw [pw_def]; exact Elem.gen.pow x)
theorem pw_pw (a x y : Nat) : pw 2147483579 (pw 2147483579 a x) y = pw 2147483579 a (x * y) := by
 rw [pw_def, pw_def, pw_def, ← Nat.pow_mod, ← Nat.pow_mul]
theorem pw_mul (a x y : Nat) : pw 2147483579 a x * pw 2147483579 a y % 2147483579 = pw 2147483579 a (x + y) := by
 rw [pw_def, pw_def, pw_def, ← Nat.mul_mod, ← Nat.pow_add]
theorem pw_red {a : Nat} (h : Elem a) (x : Nat) : pw 2147483579 a x = pw 2147483579 a (x % 1073741789) := by
 have e := h.red x
 rw [show pP = 2147483579 from rfl, show pQ = 1073741789 from rfl] at e
 rw [pw_def, pw_def]; exact e
theorem exp_mod (o C key : Nat) (hC : C < 1073741789) (ho : o < 1073741789) : ((o + C * key) % 1073741789 + key * ((1073741789 - C) % 1073741789)) % 1073741789 = o := by
 rw [Nat.add_mod, Nat.mod_mod, Nat.mul_mod, Nat.mod_mod, ← Nat.mul_mod, ← Nat.add_mod]
 have e : o + C * key + key * (1073741789 - C) = o + 1073741789 * key := by
  rw [Nat.mul_comm C key, Nat.add_assoc, ← Nat.mul_add, show C + (1073741789 - C) = 1073741789 by omega, Nat.mul_comm key]
 rw [e, Nat.add_mul_mod_self_left, Nat.mod_eq_of_lt ho]
theorem back_sign (key o C : Nat) (hC : C < 1073741789) (ho : o < 1073741789) : backN (pw 2147483579 4 key) C ((o + C * key) % 1073741789) = pw 2147483579 4 o := by
 unfold backN
 rw [pw_pw, pw_mul, pw_red Elem.gen, exp_mod o C key hC ho]
structure Sec (k : Nat) : Prop where
 lo : 1 ≤ k
 lt : k < 1073741789
theorem Sec.inQ {k : Nat} (h : Sec k) : inQ (k : Int) 1 = true := by have := h.lo; have := h.lt; simp [Go.Proofs.YtacicanjmleikaaGreatDoor.inQ]; omega
theorem inQ_nat {k : Nat} (h : k < 1073741789) : inQ (k : Int) 0 = true := by simp [inQ]; omega
theorem sgC_ok {k o : Nat} (hk : Sec k) (ho : Sec o) (ms : List Int) : sgC k o ms = chal (pw 2147483579 4 o : Nat) (pw 2147483579 4 k : Nat) ms := by
 simp [sgC, sgOk, hk.inQ, ho.inQ]
theorem sgE_ok {k o : Nat} (hk : Sec k) (ho : Sec o) : sgE k o = 0 := by simp [sgE, sgOk, hk.inQ, ho.inQ]
theorem sgS_ok {k o : Nat} (hk : Sec k) (ho : Sec o) (ms : List Int) : ∃ c : Nat, chal (pw 2147483579 4 o : Nat) (pw 2147483579 4 k : Nat) ms = (c : Int) ∧ c < 1073741789 ∧ sgS k o ms = (((o + c * k) % 1073741789 : Nat) : Int) := by
 have hc := chal_lt (pw 2147483579 4 o : Nat) (pw 2147483579 4 k : Nat) ms
 refine ⟨(chal (pw 2147483579 4 o : Nat) (pw 2147483579 4 k : Nat) ms).toNat, by omega, by omega, ?_⟩
 have h1 : sgS k o ms = ((o : Int) + sgC k o ms * k) % 1073741789 := by simp [sgS, sgOk, hk.inQ, ho.inQ]
 rw [h1, sgC_ok hk ho]
 generalize chal (pw 2147483579 4 o : Nat) (pw 2147483579 4 k : Nat) ms = C at *
 obtain ⟨c, rfl⟩ : ∃ c : Nat, C = c := ⟨C.toNat, by omega⟩
 simp
theorem vOk_pub {k c s : Nat} (hc : c < 1073741789) (hs : s < 1073741789) : vOk ((pw 2147483579 4 k : Nat) : Int) c s = true := by
 simp [vOk, memB_pw, inQ_nat hc, inQ_nat hs]
theorem verB_sign {k o : Nat} (hk : Sec k) (ho : Sec o) (one two : List Int) :
  verB ((pw 2147483579 4 k : Nat) : Int) (sgC k o one) (sgS k o one) two = (chal (pw 2147483579 4 o : Nat) (pw 2147483579 4 k : Nat) two == chal (pw 2147483579 4 o : Nat) (pw 2147483579 4 k : Nat) one) ∧
  verE ((pw 2147483579 4 k : Nat) : Int) (sgC k o one) (sgS k o one) = 0 := by
 obtain ⟨c, h1, h2, h3⟩ := sgS_ok hk ho one
 have hs : (o + c * k) % 1073741789 < 1073741789 := Nat.mod_lt _ (by omega)
 rw [sgC_ok hk ho, h3, h1]
 refine ⟨?_, by unfold verE; rw [vOk_pub h2 hs]; rfl⟩
 unfold verB
 rw [vOk_pub h2 hs, Int.toNat_natCast, Int.toNat_natCast, Int.toNat_natCast, back_sign k o c h2 ho.lt, Bool.true_and]
theorem ev4 : memB 4 = true := memB_elem (a := 4).2 Elem.gen
theorem ev_pub : pw 2147483579 4 5 = 1024 := by rw [pw_fast (by decide) (by decide)]; decide
theorem s5 : Sec 5 := ⟨by omega, by omega⟩
theorem s7 : Sec 7 := ⟨by omega, by omega⟩
end Go.Proofs.YtacicanjmleikaaGreatDoor
