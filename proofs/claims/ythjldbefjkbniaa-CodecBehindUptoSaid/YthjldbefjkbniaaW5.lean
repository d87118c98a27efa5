import Derived.Test.YthjldbefjkbniaaW4
import Derived.Test.YthjldbefjkbniaaLib2
namespace Go.Proofs.Ythjldbefjkbniaa
open Go.RowKit Go.Sort
set_option linter.unusedSimpArgs false
set_option linter.unusedVariables false
set_option maxRecDepth 100000

theorem all_eq_of_nthL (xs ys : List (List Int)) (h : xs.length = ys.length) (hn : ∀ i, i < xs.length → nthL xs i = nthL ys i) : xs = ys := by
  apply List.ext_getElem h
  intro i h1 h2
  have := hn i h1
  simp [nthL, List.getD_eq_getElem?_getD, h1, h2] at this
  exact this

set_option maxHeartbeats 400000 in
theorem lists_any (a1 a2 : Option Addr) (n1 c1 n2 c2 : Nat) (xs ys : List (List Int)) (w : World) (h1 : Sll .i64 w a1 n1 c1 xs) (h2 : Sll .i64 w a2 n2 c2 ys) :
    Calls Try.prog 21 #[.slice a1 n1 c1, .slice a2 n2 c2] w fun e w' => e = .returned (.bool (xs == ys)) ∧ Ext w w' := by
  have b1 := h1.bd
  have b2 := h2.bd
  have e1 := Lib.hid h1.hlen
  have e2 := Lib.hid h2.hlen
  by_cases hn : n1 = n2
  · subst hn
    have hb : ((n1 : Int) != n1) = false := by simp
    go_enter Try.func21, Try.ntmps21
    go_wp2
    go_loopw [5] (fun i wr => ∃ k : Nat, k ≤ n1 ∧ i = .int .i64 k ∧ (∀ j, j < k → nthL xs j = nthL ys j) ∧ Ext w wr) (fun i _ => n1 - (intOf i).toNat)
    case atStart => exact ⟨0, by omega, rfl, fun j hj => absurd hj (Nat.not_lt_zero _), Ext.refl _⟩
    case round =>
      obtain ⟨k, hk, rfl, ht, hE⟩ := hrel
      have HT := Lib.hid ht
      clear ht
      by_cases hlt : k < n1
      · obtain ⟨x1, o1, rfl, hc1⟩ := h1.at (by omega)
        obtain ⟨x2, o2, rfl, hc2⟩ := h2.at (by omega)
        obtain ⟨p1, q1, r1, g1, s1⟩ := hc1 k hlt
        obtain ⟨p2, q2, r2, g2, s2⟩ := hc2 k hlt
        replace g1 := hE.cell g1
        replace g2 := hE.cell g2
        replace s1 := s1.ext hE
        replace s2 := s2.ext hE
        clear hc1 hc2
        have g1' := cellG g1
        have g2' := cellG g2
        by_cases hx : nthL xs k = nthL ys k
        · have hx' : (nthL xs k == nthL ys k) = true := by simpa using hx
          have HX := Lib.hid hx
          clear hx
          go_wp2
          refine region_ext (by kernel_rfl) (by kernel_rfl) ?_
          repeat (go_big_quiet_step ((go_at_call 18; exact Calls.regrown_of (ints_any _ _ _ _ _ _ _ _ _ (s1.ext (ext_grow _ _ _)) (s2.ext (ext_grow _ _ _))))))
          refine wpQuiet_nil ?_
          intro w1 hE1
          go_wp2
          go_roundw
          case rel =>
            refine ⟨k+1, by omega, by go_num, fun j hj => ?_, hE.trans hE1⟩
            by_cases hjk : j = k
            · subst hjk; exact HX.out
            · exact HT.out j (by omega)
          case measure => simp [intOf]; omega
        · have hx' : (nthL xs k == nthL ys k) = false := by simpa using hx
          have HX := Lib.hid hx
          clear hx
          go_wp2
          refine region_ext (by kernel_rfl) (by kernel_rfl) ?_
          repeat (go_big_quiet_step ((go_at_call 18; exact Calls.regrown_of (ints_any _ _ _ _ _ _ _ _ _ (s1.ext (ext_grow _ _ _)) (s2.ext (ext_grow _ _ _))))))
          refine wpQuiet_nil ?_
          intro w1 hE1
          go_wp2
          go_ret
          refine ⟨ret_bool ?_, hE.trans hE1⟩
          symm; simp only [beq_eq_false_iff_ne, ne_eq]
          intro h; exact HX.out (by rw [h])
      · go_wp2
        go_ret
        refine ⟨ret_bool ?_, hE⟩
        symm; simp only [beq_iff_eq]
        exact all_eq_of_nthL _ _ (by rw [e1.out, e2.out]) fun i hi => HT.out i (by have := e1.out; omega)
  · have hn' : ((n1 : Int) != n2) = true := by simp; omega
    go_enter Try.func21, Try.ntmps21
    go_wp2
    go_ret
    refine ⟨ret_bool ?_, Ext.refl _⟩
    symm; simp only [beq_eq_false_iff_ne, ne_eq]
    intro h; apply hn; rw [← e1.out, ← e2.out, h]


def beg (xs ys : List Int) : Bool := xs.take ys.length == ys

set_option maxHeartbeats 400000 in
theorem begins_any (a1 a2 : Option Addr) (n1 c1 n2 c2 : Nat) (xs ys : List Int) (w : World) (h1 : Sl .u8 w a1 n1 c1 xs) (h2 : Sl .u8 w a2 n2 c2 ys) :
    Calls Try.prog 22 #[.slice a1 n1 c1, .slice a2 n2 c2] w fun e w' => e = .returned (.bool (beg xs ys)) ∧ Ext w w' := by
  have b1 := h1.bd
  have b2 := h2.bd
  have e1 := Lib.hid h1.hlen
  have e2 := Lib.hid h2.hlen
  by_cases hn : n2 ≤ n1
  · have h1' := h1.take hn
    have hbb : Hid (beg xs ys = (xs.take n2 == ys)) := by unfold Hid beg; rw [e2.out]
    go_enter Try.func22, Try.ntmps22
    go_wp2_with (go_at_call 13; refine (same_any _ _ _ _ _ _ _ _ _ h1' h2).mono ?_; rintro e w1 ⟨rfl, hE1⟩)
    go_ret
    exact ⟨ret_bool hbb.out.symm, hE1⟩
  · have hlt : n1 < n2 := by omega
    go_enter Try.func22, Try.ntmps22
    go_wp2
    go_ret
    refine ⟨ret_bool ?_, Ext.refl _⟩
    symm; unfold beg; simp only [beq_eq_false_iff_ne, ne_eq]
    intro h; have := congrArg List.length h; rw [List.length_take, e1.out, e2.out] at this; omega

/-- The length that three bytes say. -/
def n3 (xs : List Int) : Nat := (nth xs 0 * 65536 + nth xs 1 * 256 + nth xs 2).toNat

/-- The list of the frame with which bytes begin, and the frame's length. -/
def lnext (xs : List Int) : Option (List Int × Nat) :=
  if xs.length < 3 then none else
  if xs.length < n3 xs + 11 then none else
  if dig8 (xs.take (n3 xs + 3)) = (xs.drop (n3 xs + 3)).take 8 then (lget ((xs.drop 3).take (n3 xs))).map fun l => (l, n3 xs + 11) else none

def NextPost (w w' : World) (e : Ending) (r : Option (List Int × Nat)) : Prop :=
  match r with
  | none => ∃ a n c m, e = .returned (.tuple #[.slice a n c, .int .i64 m, .bool false]) ∧ Ext w w'
  | some (l, n) => ∃ a c, e = .returned (.tuple #[.slice a l.length c, .int .i64 n, .bool true]) ∧ OwI .i64 3 w.heap.size w' a l.length c l ∧ (∀ x ∈ l, (Lit.int .i64 x).wf = true) ∧ Ext w w'

theorem nextPost_none {w w' : World} {e : Ending} {r : Option (List Int × Nat)} (hr : r = none) (a : Option Addr) (n c : Nat) (m : Int) (h : e = .returned (.tuple #[.slice a n c, .int .i64 m, .bool false])) (hE : Ext w w') : NextPost w w' e r := by
  subst hr; exact ⟨a, n, c, m, h, hE⟩
theorem nextPost_some {w w' : World} {e : Ending} {r : Option (List Int × Nat)} {l : List Int} {n : Nat} (hr : r = some (l, n)) (a : Option Addr) (c : Nat) (h : e = .returned (.tuple #[.slice a l.length c, .int .i64 n, .bool true])) (hs : OwI .i64 3 w.heap.size w' a l.length c l) (hw : ∀ x ∈ l, (Lit.int .i64 x).wf = true) (hE : Ext w w') : NextPost w w' e r := by
  subst hr; exact ⟨a, c, h, hs, hw, hE⟩

theorem lget_wf {xs l : List Int} (hw : ∀ x ∈ xs, (Lit.int .u8 x).wf = true) {i j : Nat} (h : lget ((xs.drop i).take j) = some l) : ∀ x ∈ l, (Lit.int .i64 x).wf = true := by
  unfold lget at h
  split at h
  · cases h
  · split at h
    · cases h
    · split at h
      · cases h
      · rename_i l' e hm
        split at h
        · cases h
          exact (rdMany_wf (fun x hx => hw x (List.mem_of_mem_drop (List.mem_of_mem_take hx))) _ _ _ _ hm).2
        · cases h

set_option maxHeartbeats 800000 in
theorem rnext_any (a1 : Option Addr) (n1 c1 : Nat) (xs : List Int) (w : World) (h1 : Sl .u8 w a1 n1 c1 xs) :
    Calls Try.prog 34 #[.slice a1 n1 c1] w fun e w' => NextPost w w' e (lnext xs) := by
  have b1 := h1.bd
  have e1 := Lib.hid h1.hlen
  by_cases h3 : n1 < 3
  · go_enter Try.func34, Try.ntmps34
    go_wp2
    go_ret3
    exact nextPost_none (by unfold lnext; rw [if_pos (by rw [e1.out]; exact h3)]) _ _ _ _ rfl (Ext.refl _)
  · obtain ⟨x1, o1, rfl, hc1⟩ := h1.at (by omega)
    have g0 := hc1 0 (by omega)
    have g1 := hc1 1 (by omega)
    have g2 := hc1 2 (by omega)
    have v0 := wf_u8 (h1.wfAt (i := 0) (by omega))
    have v1 := wf_u8 (h1.wfAt (i := 1) (by omega))
    have v2 := wf_u8 (h1.wfAt (i := 2) (by omega))
    obtain ⟨N, hN⟩ : ∃ N : Nat, nth xs 0 * 65536 + nth xs 1 * 256 + nth xs 2 = (N : Int) := ⟨(nth xs 0 * 65536 + nth xs 1 * 256 + nth xs 2).toNat, by omega⟩
    have hN3 : Hid (n3 xs = N) := by unfold Hid n3; omega
    have hNb : N < 16777216 := by omega
    clear hc1
    simp only [Nat.add_zero] at g0
    go_enter Try.func34, Try.ntmps34
    go_wp2
    refine region_ext (by kernel_rfl) (by kernel_rfl) ?_
    have g0' := cellG g0
    have g1' := cellG g1
    have g2' := cellG g2
    repeat (go_big_quiet_step (fail))
    refine wpQuiet_nil ?_
    intro w1 hE1
    replace h1 := h1.ext hE1
    clear g0' g1' g2' g0 g1 g2
    by_cases h11 : n1 < N + 11
    · have hd : decide ((n1 : Int) < N + 11) = true := by simp; omega
      go_wp2
      refine region_ext (by kernel_rfl) (by kernel_rfl) ?_
      repeat (go_big_quiet_step (fail))
      refine wpQuiet_nil ?_
      intro w2 hE2
      go_wp2
      go_ret3
      exact nextPost_none (by unfold lnext; rw [if_neg (by rw [e1.out]; omega), if_pos (by rw [e1.out, hN3.out]; omega)]) _ _ _ _ rfl (hE1.trans hE2)
    · have hd : decide ((n1 : Int) < N + 11) = false := by simp; omega
      have ha := h1.take (m := N + 3) (by omega)
      have hb := (h1.drop (m := N + 3) (by omega) (c1 - (N + 3)) (by omega) (by omega)).take (m := 8) (by omega)
      have hw11 : IntKind.i64.wrap ((N : Int) + 11) = (N : Int) + 11 := IntWalk.i64_in _ (by omega)
      have hw3 : IntKind.i64.wrap ((N : Int) + 3) = (N : Int) + 3 := IntWalk.i64_in _ (by omega)
      have hz3 : (0 : Int) ≤ (N : Int) + 3 := by omega
      have hl3 : (N : Int) + 3 ≤ n1 := by omega
      have hl4 : (N : Int) + 3 ≤ c1 := by omega
      have hl5 : (N : Int) + 11 ≤ c1 := by omega
      have hl6 : (N : Int) + 3 ≤ (N : Int) + 11 := by omega
      have ht3 : ((N : Int) + 3).toNat = N + 3 := by omega
      have ht11 : ((N : Int) + 11).toNat = N + 11 := by omega
      have hdr1 : 3 ≤ N + 3 := by omega
      by_cases hdg : dig8 (xs.take (N + 3)) = (xs.drop (N + 3)).take 8
      · have hdb : (dig8 (xs.take (N + 3)) == (xs.drop (N + 3)).take 8) = true := by simpa using hdg
        have HD := Lib.hid hdg
        clear hdg
        go_wp2
        go_region_held3 (fun w' => Ext w1 w') (first | exact Ext.refl _ | exact (Ext.refl _).drew | exact Ext.trans (Ext.drew (Ext.refl _)) ‹_› | exact Ext.trans (Ext.trans (Ext.drew (Ext.refl _)) hE2) ‹_›)
          (first | (go_at_call 28; refine (rsum8_any _ _ _ (xs.take (N + 3)) _ (ha.ext ((Ext.refl _).drew))).mono ?_; rintro e w2 ⟨g, rfl, ho2, hE2⟩) | (go_at_call 13; refine (same_any _ _ _ _ _ _ (dig8 (xs.take (N + 3))) ((xs.drop (N + 3)).take 8) _ (ho2.sl (be8_wf _)) (hb.ext (Ext.trans ((Ext.refl _).drew) hE2))).mono ?_; rintro e w3 ⟨rfl, hE3⟩))
        all_goals
          have hE13 : Ext w1 w3 := Ext.trans (Ext.trans ((Ext.refl _).drew) hE2) hE3
          have hs := ((h1.ext hE13).drop (m := 3) (by omega) (c1 - 3) (by omega) (by omega)).take (m := N) (by omega)
          go_wp2_with fail
          refine (rget_any _ _ _ ((xs.drop 3).take N) _ hs).mono ?_
          intro e w4 hp
          have hnx : lnext xs = (lget ((xs.drop 3).take N)).map fun l => (l, N + 11) := by
            unfold lnext
            rw [if_neg (by rw [e1.out]; omega), if_neg (by rw [e1.out, hN3.out]; omega), hN3.out, if_pos HD.out]
          have HX := Lib.hid hnx
          clear hnx
          rcases hr : lget ((xs.drop 3).take N) with _ | l
          · rw [hr] at hp
            obtain ⟨rfl, hE4⟩ := hp
            have HR := Lib.hid hr
            clear hr
            go_wp2
            go_ret3
            exact nextPost_none (by rw [HX.out, HR.out]; rfl) _ _ _ _ rfl (hE1.trans (hE13.trans hE4))
          · rw [hr] at hp
            obtain ⟨a4, c4, rfl, ho4, hE4⟩ := hp
            have HR := Lib.hid hr
            have hwl := Lib.hid (lget_wf h1.wf hr)
            clear hr
            go_wp2
            go_ret3
            exact nextPost_some (by rw [HX.out, HR.out]; rfl) _ _ rfl (ho4.mono (hE1.trans hE13).sz) hwl.out (hE1.trans (hE13.trans hE4))
      · have hdb : (dig8 (xs.take (N + 3)) == (xs.drop (N + 3)).take 8) = false := by simpa using hdg
        have HD := Lib.hid hdg
        clear hdg
        go_wp2
        go_region_held3 (fun w' => Ext w1 w') (first | exact Ext.refl _ | exact (Ext.refl _).drew | exact Ext.trans (Ext.drew (Ext.refl _)) ‹_› | exact Ext.trans (Ext.trans (Ext.drew (Ext.refl _)) hE2) ‹_›)
          (first | (go_at_call 28; refine (rsum8_any _ _ _ (xs.take (N + 3)) _ (ha.ext ((Ext.refl _).drew))).mono ?_; rintro e w2 ⟨g, rfl, ho2, hE2⟩) | (go_at_call 13; refine (same_any _ _ _ _ _ _ (dig8 (xs.take (N + 3))) ((xs.drop (N + 3)).take 8) _ (ho2.sl (be8_wf _)) (hb.ext (Ext.trans ((Ext.refl _).drew) hE2))).mono ?_; rintro e w3 ⟨rfl, hE3⟩))
        all_goals
          go_wp2
          go_ret3
          exact nextPost_none (by unfold lnext; rw [if_neg (by rw [e1.out]; omega), if_neg (by rw [e1.out, hN3.out]; omega), hN3.out, if_neg HD.out]) _ _ _ _ rfl (hE1.trans (Ext.trans (Ext.trans ((Ext.refl _).drew) hE2) hE3))

end Go.Proofs.Ythjldbefjkbniaa
