import Derived.Test.YthjldbefjkbniaaW19
namespace Go.Proofs.Ythjldbefjkbniaa
open Go.RowKit Go.Sort Go.Shelf
set_option linter.unusedSimpArgs false
set_option linter.unusedVariables false
set_option maxRecDepth 100000

theorem lput1 (a : Int) : (lput [a]).length = 1 + (digs (num a)).length := by
  unfold lput
  have h : num (([a] : List Int).length : Int) = 2 := rfl
  rw [h, digs_small (by omega)]
  simp
  omega

theorem num_mono {a b : Int} (h : (0 ≤ a ∧ a ≤ b) ∨ (a < 0 ∧ b ≤ a)) : num a ≤ num b := by
  unfold num; split <;> split <;> omega

theorem wf1 {a : Int} (h : (Lit.int .i64 a).wf = true) : ∀ x ∈ [a], (Lit.int .i64 x).wf = true := by
  intro x hx; simp at hx; subst hx; exact h

/-- Which lengths are compared. -/
def farB (a b : Int) : Bool := decide (0 ≤ a ∧ a ≤ b ∨ a < 0 ∧ b ≤ a)

set_option maxHeartbeats 1000000 in
theorem lengths_any (a b : Int) (a1 : Option Addr) (n1 c1 : Nat) (xs : List Int) (w : World) (ha : (Lit.int .i64 a).wf = true) (hb : (Lit.int .i64 b).wf = true) (h1 : Sl .i64 w a1 n1 c1 xs) :
    Calls Try.prog 8 #[.int .i64 a, .int .i64 b, .slice a1 n1 c1] w fun e w' => e = .returned (.bool true) ∧ Ext w w' := by
  have b1 := h1.bd
  obtain ⟨k, hk⟩ : ∃ k, k = min n1 1000 := ⟨_, rfl⟩
  have hk1 : k ≤ n1 := by omega
  have hk2 : k ≤ 1000 := by omega
  have hkc : (k : Int) ≤ c1 := by omega
  have hmin : (if (1000 : Int) < (n1 : Int) then (1000 : Int) else (n1 : Int)) = (k : Int) := by split <;> omega
  clear hk
  have k0 : (0 : Int) ≤ (k : Int) := by omega
  have la := lput1 a
  have lb := lput1 b
  have da := digs_num_len (wf_i64 ha)
  have db := digs_num_len (wf_i64 hb)
  obtain ⟨p, hp⟩ : ∃ p, p = (digs (num a)).length := ⟨_, rfl⟩
  obtain ⟨q, hq⟩ : ∃ q, q = (digs (num b)).length := ⟨_, rfl⟩
  have hmono : (0 ≤ a ∧ a ≤ b) ∨ (a < 0 ∧ b ≤ a) → p ≤ q := fun h => by rw [hp, hq]; exact digs_mono _ _ (num_mono h)
  rw [← hp] at la da
  rw [← hq] at lb db
  have LA := Lib.hid la
  have LB := Lib.hid lb
  clear hp hq la lb
  have key : ∀ up : Bool, (up = true → p ≤ q) → True := fun _ _ => trivial
  go_enter Try.func8, Try.ntmps8
  go_wp2_with fail
  refine (head_any _).mono ?_
  rintro e w1 ⟨rfl, hE1⟩
  have hx := h1.ext hE1
  have hx' := hx.take hk1
  clear hx h1 key
  go_wp2_with fail
  refine (put2_any _ _ _ [a] _ (litSl .i64 3 w1 [a] _ rfl (by simp [maxLen]) (wf1 ha)) (by simp)).mono ?_
  rintro e w2 ⟨g2, c2, rfl, s2, hE2⟩
  rw [LA.out]
  replace hE2 : Ext w1 w2 := ((Ext.refl w1).alloc _).trans hE2
  clear s2
  go_wp2_with fail
  refine (put2_any _ _ _ [b] _ (litSl .i64 3 w2 [b] _ rfl (by simp [maxLen]) (wf1 hb)) (by simp)).mono ?_
  rintro e w3 ⟨g3, c3, rfl, s3, hE3⟩
  rw [LB.out]
  replace hE3 : Ext w2 w3 := ((Ext.refl w2).alloc _).trans hE3
  clear s3
  have hy := (hx'.ext hE2).ext hE3
  have hE03 := (hE1.trans hE2).trans hE3
  have hXl : (xs.take k).length = k := hy.hlen
  have hll := lput_len hy.wf (by omega)
  have hL2 : (lput (xs.take k)).length ≤ 20000 := by omega
  clear hll
  have hfl := Lib.hid (lframe_len (xs.take k))
  have HM := Lib.hid hmono
  generalize xs.take k = XS at *
  clear hx' hE1 hE2 hE3 hXl hmin hmono
  have hor : (0 ≤ a ∧ a ≤ b ∧ p ≤ q) ∨ (0 ≤ a ∧ b < a) ∨ (a < 0 ∧ b ≤ a ∧ p ≤ q) ∨ (a < 0 ∧ a < b) := by
    have := HM.out
    omega
  rcases hor with ⟨o1, o2, o3⟩ | ⟨o1, o2⟩ | ⟨o1, o2, o3⟩ | ⟨o1, o2⟩
  all_goals
    go_wp2_with fail
    refine (put2_any _ _ _ XS _ hy hk2).mono ?_
    rintro e w4 ⟨g4, c4, rfl, s4, hE4⟩
    have hz := hy.ext hE4
    clear s4
    go_wp2_with fail
    refine (frame_any _ _ _ XS _ hz hk2).mono ?_
    rintro e w5 ⟨g5, c5, rfl, s5, hE5⟩
    rw [hfl.out]
    clear s5
    generalize (lput XS).length = L at *
    go_wp2
    go_ret
    exact ⟨rfl, (hE03.trans hE4).trans hE5⟩

end Go.Proofs.Ythjldbefjkbniaa
