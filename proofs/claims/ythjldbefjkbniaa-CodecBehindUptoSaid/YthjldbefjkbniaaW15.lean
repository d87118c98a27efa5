import Derived.Test.YthjldbefjkbniaaW14
namespace Go.Proofs.Ythjldbefjkbniaa
open Go.RowKit Go.Sort Go.Shelf
set_option linter.unusedSimpArgs false
set_option linter.unusedVariables false
set_option maxRecDepth 100000

/-- What Put answers, whatever the length. -/
def PutPost (w w' : World) (e : Ending) (n : Nat) (bs : List Int) : Prop :=
  ∃ (a : Option Addr) (m c : Nat) (zs : List Int) (r : Int), e = .returned (.tuple #[.slice a m c, .int .i64 r]) ∧ Sl .u8 w' a m c zs ∧ Ext w w' ∧ zs = (if n ≤ 1000 then bs else []) ∧ r = (if n ≤ 1000 then 0 else 2)

theorem Sl.none_nil (k : IntKind) (w : World) : Sl k w none 0 0 [] := (OwI.nil k 0 0 w).sl (by simp)

theorem put2_all (a1 : Option Addr) (n1 c1 : Nat) (xs : List Int) (w : World) (h1 : Sl .i64 w a1 n1 c1 xs) :
    Calls Try.prog 11 #[.slice a1 n1 c1] w fun e w' => PutPost w w' e n1 (lput xs) := by
  by_cases hs : n1 ≤ 1000
  · refine (put2_any _ _ _ xs _ h1 hs).mono ?_
    rintro e w' ⟨g, c, rfl, ho, hE⟩
    exact ⟨_, _, _, _, 0, rfl, ho.sl (lput_wf _), hE, by rw [if_pos hs], by rw [if_pos hs]⟩
  · refine (put2_big _ _ _ xs _ h1 (by omega)).mono ?_
    rintro e w' ⟨rfl, rfl⟩
    exact ⟨_, _, _, _, 2, rfl, Sl.none_nil _ _, Ext.refl _, by rw [if_neg hs], by rw [if_neg hs]⟩

theorem rput_all (a1 : Option Addr) (n1 c1 : Nat) (xs : List Int) (w : World) (h1 : Sl .i64 w a1 n1 c1 xs) :
    Calls Try.prog 12 #[.slice a1 n1 c1] w fun e w' => PutPost w w' e n1 (lput xs) := by
  by_cases hs : n1 ≤ 1000
  · refine (rput_any _ _ _ xs _ h1 hs).mono ?_
    rintro e w' ⟨g, c, rfl, ho, hE⟩
    exact ⟨_, _, _, _, 0, rfl, ho.sl (lput_wf _), hE, by rw [if_pos hs], by rw [if_pos hs]⟩
  · refine (rput_big _ _ _ xs _ h1 (by omega)).mono ?_
    rintro e w' ⟨rfl, rfl⟩
    exact ⟨_, _, _, _, 2, rfl, Sl.none_nil _ _, Ext.refl _, by rw [if_neg hs], by rw [if_neg hs]⟩

theorem frame_all (a1 : Option Addr) (n1 c1 : Nat) (xs : List Int) (w : World) (h1 : Sl .i64 w a1 n1 c1 xs) :
    Calls Try.prog 14 #[.slice a1 n1 c1] w fun e w' => PutPost w w' e n1 (lframe xs) := by
  by_cases hs : n1 ≤ 1000
  · refine (frame_any _ _ _ xs _ h1 hs).mono ?_
    rintro e w' ⟨g, c, rfl, ho, hE⟩
    exact ⟨_, _, _, _, 0, rfl, ho.sl (lframe_wf _), hE, by rw [if_pos hs], by rw [if_pos hs]⟩
  · refine (frame_big _ _ _ xs _ h1 (by omega)).mono ?_
    rintro e w' ⟨rfl, rfl⟩
    exact ⟨_, _, _, _, 2, rfl, Sl.none_nil _ _, Ext.refl _, by rw [if_neg hs], by rw [if_neg hs]⟩

theorem rframe_all (a1 : Option Addr) (n1 c1 : Nat) (xs : List Int) (w : World) (h1 : Sl .i64 w a1 n1 c1 xs) :
    Calls Try.prog 15 #[.slice a1 n1 c1] w fun e w' => PutPost w w' e n1 (lframe xs) := by
  by_cases hs : n1 ≤ 1000
  · refine (rframe_any _ _ _ xs _ h1 hs).mono ?_
    rintro e w' ⟨g, c, rfl, ho, hE⟩
    exact ⟨_, _, _, _, 0, rfl, ho.sl (lframe_wf _), hE, by rw [if_pos hs], by rw [if_pos hs]⟩
  · refine (rframe_big _ _ _ xs _ h1 (by omega)).mono ?_
    rintro e w' ⟨rfl, rfl⟩
    exact ⟨_, _, _, _, 2, rfl, Sl.none_nil _ _, Ext.refl _, by rw [if_neg hs], by rw [if_neg hs]⟩

/-- What Get answers, whatever the bytes. -/
def GetAll (w w' : World) (e : Ending) (r : Option (List Int)) : Prop :=
  ∃ (a : Option Addr) (m c : Nat) (zs : List Int) (k : Int), e = .returned (.tuple #[.slice a m c, .int .i64 k]) ∧ Sl .i64 w' a m c zs ∧ Ext w w' ∧ zs = r.getD [] ∧ k = (if r.isSome then 0 else 7)

theorem getAll_of {w w' : World} {e : Ending} {r : Option (List Int)} (hw : ∀ l, r = some l → ∀ x ∈ l, (Lit.int .i64 x).wf = true) (h : GetPost w w' e r) : GetAll w w' e r := by
  rcases r with _ | l
  · obtain ⟨rfl, hE⟩ := h
    exact ⟨_, _, _, _, 7, rfl, Sl.none_nil _ _, hE, rfl, rfl⟩
  · obtain ⟨a, c, rfl, ho, hE⟩ := h
    exact ⟨_, _, _, _, 0, rfl, ho.sl (hw l rfl), hE, rfl, rfl⟩

theorem get_all (a1 : Option Addr) (n1 c1 : Nat) (xs : List Int) (w : World) (h1 : Sl .u8 w a1 n1 c1 xs) (hn1 : n1 ≤ 1000000000) :
    Calls Try.prog 16 #[.slice a1 n1 c1] w fun e w' => GetAll w w' e (lget xs) :=
  (get_any _ _ _ xs _ h1 hn1).mono fun e w' h => getAll_of (fun l hl => lget_wf (i := 0) (j := xs.length) h1.wf (by simpa using hl)) h

theorem rget_all (a1 : Option Addr) (n1 c1 : Nat) (xs : List Int) (w : World) (h1 : Sl .u8 w a1 n1 c1 xs) :
    Calls Try.prog 17 #[.slice a1 n1 c1] w fun e w' => GetAll w w' e (lget xs) :=
  (rget_any _ _ _ xs _ h1).mono fun e w' h => getAll_of (fun l hl => lget_wf (i := 0) (j := xs.length) h1.wf (by simpa using hl)) h

theorem fewE_any (a1 : Option Addr) (n1 c1 : Nat) (xs : List Int) (w : World) (h1 : Sl .u8 w a1 n1 c1 xs) :
    Calls Try.prog 10 #[.slice a1 n1 c1] w fun e w' => e = .returned (.slice a1 (min n1 3000) c1) ∧ Ext w w' :=
  (few_any _ _ _ _ _ h1).mono fun e w' h => ⟨h.1, h.2 ▸ Ext.refl _⟩

set_option maxHeartbeats 1000000 in
theorem matches_any (a1 : Option Addr) (n1 c1 : Nat) (xs : List Int) (a2 : Option Addr) (n2 c2 : Nat) (ys : List Int) (w : World) (h1 : Sl .i64 w a1 n1 c1 xs) (h2 : Sl .u8 w a2 n2 c2 ys) :
    Calls Try.prog 3 #[.slice a1 n1 c1, .slice a2 n2 c2] w fun e w' => e = .returned (.bool true) ∧ Ext w w' := by
  have b1 := h1.bd
  have b2 := h2.bd
  go_enter Try.func3, Try.ntmps3
  go_wp2_with fail
  refine (head_any _).mono ?_
  rintro e w1 ⟨rfl, hE1⟩
  have hx := h1.ext hE1
  have hy := h2.ext hE1
  obtain ⟨k, hk⟩ : ∃ k, k = min n1 1100 := ⟨_, rfl⟩
  have hk1 : k ≤ n1 := by omega
  have hkc : (k : Int) ≤ c1 := by omega
  have hx' := hx.take hk1
  have hmin : (if (1100 : Int) < (n1 : Int) then (1100 : Int) else (n1 : Int)) = (k : Int) := by split <;> omega
  clear hk
  have k0 : (0 : Int) ≤ (k : Int) := by omega
  go_wp2_with fail
  refine region_ext (by kernel_rfl) (by kernel_rfl) ?_
  repeat (go_big_quiet_step ((go_at_call 10; exact Calls.regrown_of (fewE_any _ _ _ ys _ (hy.ext (ext_grow _ _ _))))))
  refine wpQuiet_nil ?_
  intro w2 hE2
  try simp only [hmin, Int.toNat_natCast]
  replace hx := hx'.ext hE2
  replace hy := (hy.ext hE2).take (m := min n2 3000) (by omega)
  have hE02 := hE1.trans hE2
  generalize xs.take k = XS at *
  generalize ys.take (min n2 3000) = YS at *
  have hm : min n2 3000 ≤ 3000 := by omega
  generalize min n2 3000 = m at *
  clear hx' h1 h2 hE1 hE2 hmin
  go_wp2_with fail
  refine (put2_all _ _ _ XS _ hx).mono ?_
  rintro e w3 ⟨a3, n3, c3, z3, r3, rfl, s3, hE3, e3, f3⟩
  replace hx := hx.ext hE3
  replace hy := hy.ext hE3
  replace hE02 := hE02.trans hE3
  replace e3 := Lib.hid e3
  replace f3 := Lib.hid f3
  clear hE3
  go_wp2_with fail
  refine (rput_all _ _ _ XS _ hx).mono ?_
  rintro e w4 ⟨a4, n4, c4, z4, r4, rfl, s4, hE4, e4, f4⟩
  replace hx := hx.ext hE4
  replace hy := hy.ext hE4
  replace hE02 := hE02.trans hE4
  replace s3 := s3.ext hE4
  obtain rfl : r4 = r3 := f4.trans f3.out.symm
  obtain rfl : z4 = z3 := e4.trans e3.out.symm
  clear hE4 e3 f3 e4 f4
  go_wp2_with fail
  refine (same_any _ _ _ _ _ _ z4 z4 _ s3 s4).mono ?_
  rintro e w5 ⟨he, hE5⟩
  rw [show (z4 == z4) = true from by simp] at he
  subst he
  replace hx := hx.ext hE5
  replace hy := hy.ext hE5
  replace hE02 := hE02.trans hE5
  clear hE5 s3 s4
  go_wp2_with fail
  refine (frame_all _ _ _ XS _ hx).mono ?_
  rintro e w3 ⟨a3, n3, c3, z3, r3, rfl, s3, hE3, e3, f3⟩
  replace hx := hx.ext hE3
  replace hy := hy.ext hE3
  replace hE02 := hE02.trans hE3
  replace e3 := Lib.hid e3
  replace f3 := Lib.hid f3
  clear hE3
  go_wp2_with fail
  refine (rframe_all _ _ _ XS _ hx).mono ?_
  rintro e w4 ⟨a4, n4, c4, z4, r4, rfl, s4, hE4, e4, f4⟩
  replace hx := hx.ext hE4
  replace hy := hy.ext hE4
  replace hE02 := hE02.trans hE4
  replace s3 := s3.ext hE4
  obtain rfl : r4 = r3 := f4.trans f3.out.symm
  obtain rfl : z4 = z3 := e4.trans e3.out.symm
  clear hE4 e3 f3 e4 f4
  go_wp2_with fail
  refine (same_any _ _ _ _ _ _ z4 z4 _ s3 s4).mono ?_
  rintro e w5 ⟨he, hE5⟩
  rw [show (z4 == z4) = true from by simp] at he
  subst he
  replace hx := hx.ext hE5
  replace hy := hy.ext hE5
  replace hE02 := hE02.trans hE5
  clear hE5 s3 s4
  go_wp2_with fail
  refine (get_all _ _ _ YS _ hy (by omega)).mono ?_
  rintro e w3 ⟨a3, n3, c3, z3, r3, rfl, s3, hE3, e3, f3⟩
  replace hy := hy.ext hE3
  replace hE02 := hE02.trans hE3
  replace e3 := Lib.hid e3
  replace f3 := Lib.hid f3
  clear hE3 hx
  go_wp2_with fail
  refine (rget_all _ _ _ YS _ hy).mono ?_
  rintro e w4 ⟨a4, n4, c4, z4, r4, rfl, s4, hE4, e4, f4⟩
  replace hy := hy.ext hE4
  replace hE02 := hE02.trans hE4
  replace s3 := s3.ext hE4
  obtain rfl : r4 = r3 := f4.trans f3.out.symm
  obtain rfl : z4 = z3 := e4.trans e3.out.symm
  clear hE4 e3 f3 e4 f4
  go_wp2_with fail
  refine (ints_any _ _ _ _ _ _ z4 z4 _ s3 s4).mono ?_
  rintro e w5 ⟨he, hE5⟩
  rw [show (z4 == z4) = true from by simp] at he
  subst he
  replace hy := hy.ext hE5
  replace hE02 := hE02.trans hE5
  clear hE5 s3 s4
  go_wp2_with fail
  refine (frames_any _ _ _ YS _ hy (by omega)).mono ?_
  rintro e w3 ⟨a3, c3, rfl, s3, hE3⟩
  replace hy := hy.ext hE3
  replace hE02 := hE02.trans hE3
  replace s3 := s3.sll
  clear hE3
  generalize hLF : lframes YS.length YS = LF at *
  have HLF := Lib.hid hLF
  clear hLF
  obtain ⟨L, N⟩ := LF
  simp only at s3 ⊢
  go_wp2_with fail
  refine (rframes_any _ _ _ YS _ hy (by omega)).mono ?_
  rintro e w4 ⟨a4, c4, rfl, s4, hE4⟩
  rw [HLF.out] at s4 ⊢
  simp only at s4 ⊢
  replace hE02 := hE02.trans hE4
  replace s3 := s3.ext hE4
  replace s4 := s4.sll
  clear hE4 hy
  go_wp2_with fail
  refine (lists_any _ _ _ _ _ _ L L _ s3 s4).mono ?_
  rintro e w5 ⟨he, hE5⟩
  rw [show (L == L) = true from by simp] at he
  subst he
  replace hE02 := hE02.trans hE5
  clear hE5 s3 s4
  go_wp2
  go_ret
  exact ⟨rfl, hE02⟩

end Go.Proofs.Ythjldbefjkbniaa
