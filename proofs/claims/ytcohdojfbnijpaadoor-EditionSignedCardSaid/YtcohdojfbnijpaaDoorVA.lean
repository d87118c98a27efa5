/-
  Tables of leap seconds, in plain words: what makes one valid, what the days' beginnings are, which day a time is of.
-/
import Derived.Test.YtcohdojfbnijpaaDoorRw
namespace Go.Proofs.YtcohdojfbnijpaaDoor
open Go.RowKit Go.Sort
set_option linter.unusedSimpArgs false
set_option linter.unusedVariables false

/-- A leap second. -/
structure Lp where
  d : Int
  s : Int
  deriving DecidableEq

def Lp.enc (x : Lp) : List Value := [.int .i64 x.d, .int .i64 x.s]
def Lp.Ok (x : Lp) : Prop := (Lit.int .i64 x.d).wf = true ∧ (Lit.int .i64 x.s).wf = true
instance : Cel Lp where
  dflt := ⟨0, 0⟩
  sz := 2
  enc := Lp.enc
  ok := Lp.Ok
  len := fun _ => rfl
  pos := by decide
  one := by intro x v hv; simp [Lp.enc] at hv; rcases hv with rfl | rfl <;> rfl
theorem sz_lp : Cel.sz Lp = 2 := rfl
theorem cells_lp {W : World} {b o : Nat} {x : Lp} (h : W.rangeAt b o (Cel.enc x)) : W.cell? ⟨b, o, none⟩ = some (.int .i64 x.d) ∧ W.cell? ⟨b, o + 1, none⟩ = some (.int .i64 x.s) :=
  ⟨by simpa using h 0 _ rfl, h 1 _ rfl⟩
theorem Lp.Ok.a {x : Lp} (h : x.Ok) : (Lit.int .i64 x.d).wf = true := h.1
theorem Lp.Ok.b {x : Lp} (h : x.Ok) : (Lit.int .i64 x.s).wf = true := h.2

/-- One leap second of a valid table, behind a day. -/
def goodL (last : Int) (x : Lp) : Bool := decide (last < x.d) && (decide (x.d < 34000) && (decide (x.s = 1) || decide (x.s = -1)))
def vfrom (last : Int) : List Lp → Bool
  | [] => true
  | x :: l => goodL last x && vfrom x.d l
def validL (l : List Lp) : Bool := vfrom (-1) l && decide (l.length ≤ 100)

/-- The sum of the leap seconds before a day, up to the first one that is not before it. -/
def offL : List Lp → Int → Int
  | [], _ => 0
  | x :: l, day => if x.d < day then x.s + offL l day else 0
/-- The sum of all leap seconds before a day. -/
def sumL : List Lp → Int → Int
  | [], _ => 0
  | x :: l, day => (if x.d < day then x.s else 0) + sumL l day
def startL (l : List Lp) (day : Int) : Int := day * 86400000000 + offL l day * 1000000
def stepL (l : List Lp) (day : Int) : Int := offL l (day + 1) - offL l day
def lenL (l : List Lp) (day : Int) : Int := 86400000000 + stepL l day * 1000000

theorem goodL_iff {last : Int} {x : Lp} : goodL last x = true ↔ last < x.d ∧ x.d < 34000 ∧ (x.s = 1 ∨ x.s = -1) := by simp [goodL]
theorem vfrom_mono {a b : Int} (h : a ≤ b) : ∀ {l : List Lp}, vfrom b l = true → vfrom a l = true
  | [], _ => rfl
  | x :: l, hv => by
    simp only [vfrom, Bool.and_eq_true, goodL_iff] at hv ⊢
    exact ⟨⟨by omega, hv.1.2⟩, hv.2⟩
theorem vfrom_gt : ∀ {l : List Lp} {last : Int}, vfrom last l = true → ∀ x ∈ l, last < x.d ∧ x.d < 34000 ∧ (x.s = 1 ∨ x.s = -1)
  | [], _, _, x, hx => by cases hx
  | y :: l, last, h, x, hx => by
    simp only [vfrom, Bool.and_eq_true, goodL_iff] at h
    rcases List.mem_cons.1 hx with rfl | hx
    · exact h.1
    · have := vfrom_gt h.2 x hx
      exact ⟨by omega, this.2⟩
theorem offL_zero : ∀ {l : List Lp} {last day : Int}, vfrom last l = true → day ≤ last + 1 → offL l day = 0
  | [], _, _, _, _ => rfl
  | x :: l, last, day, h, hd => by
    have := vfrom_gt h x (by simp)
    simp only [offL]
    rw [if_neg (by omega)]
theorem sumL_zero : ∀ {l : List Lp} {last day : Int}, vfrom last l = true → day ≤ last + 1 → sumL l day = 0
  | [], _, _, _, _ => rfl
  | x :: l, last, day, h, hd => by
    have h1 := vfrom_gt h x (by simp)
    simp only [vfrom, Bool.and_eq_true] at h
    simp only [sumL]
    rw [if_neg (by omega), sumL_zero h.2 (by omega)]; rfl
theorem sumL_eq : ∀ {l : List Lp} {last day : Int}, vfrom last l = true → sumL l day = offL l day
  | [], _, _, _ => rfl
  | x :: l, last, day, h => by
    simp only [vfrom, Bool.and_eq_true] at h
    simp only [sumL, offL]
    by_cases hd : x.d < day
    · rw [if_pos hd, if_pos hd, sumL_eq h.2]
    · rw [if_neg hd, if_neg hd, sumL_zero h.2 (by omega)]; rfl
theorem offL_bd : ∀ {l : List Lp} {last day : Int}, vfrom last l = true → - (l.length : Int) ≤ offL l day ∧ offL l day ≤ l.length
  | [], _, _, _ => by simp [offL]
  | x :: l, last, day, h => by
    have h1 := vfrom_gt h x (by simp)
    simp only [vfrom, Bool.and_eq_true] at h
    have h2 := offL_bd (day := day) h.2
    simp only [offL, List.length_cons]
    split <;> omega
theorem stepL_bd : ∀ {l : List Lp} {last : Int} (day : Int), vfrom last l = true → stepL l day = 0 ∨ stepL l day = 1 ∨ stepL l day = -1
  | [], _, _, _ => by simp [stepL, offL]
  | x :: l, last, day, h => by
    have h1 := vfrom_gt h x (by simp)
    simp only [vfrom, Bool.and_eq_true] at h
    have h2 := stepL_bd day h.2
    simp only [stepL, offL] at h2 ⊢
    by_cases e1 : x.d < day
    · rw [if_pos e1, if_pos (by omega)]; omega
    · by_cases e2 : x.d < day + 1
      · rw [if_neg e1, if_pos e2, offL_zero h.2 (by omega)]; omega
      · rw [if_neg e1, if_neg e2]; omega

theorem validL_from {l : List Lp} (h : validL l = true) : vfrom (-1) l = true := by simp only [validL, Bool.and_eq_true] at h; exact h.1
theorem validL_len {l : List Lp} (h : validL l = true) : l.length ≤ 100 := by simp only [validL, Bool.and_eq_true, decide_eq_true_eq] at h; exact h.2
theorem validL_off {l : List Lp} (h : validL l = true) (day : Int) : -100 ≤ offL l day ∧ offL l day ≤ 100 := by
  have := offL_bd (day := day) (validL_from h)
  have := validL_len h
  omega
theorem lenL_bd {l : List Lp} (h : validL l = true) (day : Int) : lenL l day = 86400000000 ∨ lenL l day = 86401000000 ∨ lenL l day = 86399000000 := by
  have := stepL_bd day (validL_from h)
  unfold lenL
  omega
theorem startL_succ (l : List Lp) (day : Int) : startL l (day + 1) = startL l day + lenL l day := by
  unfold startL lenL stepL; omega
theorem startL_zero {l : List Lp} (h : validL l = true) : startL l 0 = 0 := by
  unfold startL; rw [offL_zero (validL_from h) (by omega)]; rfl
theorem startL_add {l : List Lp} (h : validL l = true) (day : Int) : ∀ (n : Nat), startL l day + n * 86399000000 ≤ startL l (day + n)
  | 0 => by simp
  | n + 1 => by
    have h1 := startL_add h day n
    have h2 := lenL_bd h (day + n)
    have h3 := startL_succ l (day + n)
    have h4 : day + ((n + 1 : Nat) : Int) = day + n + 1 := by omega
    rw [h4]
    push_cast
    omega
theorem startL_mono {l : List Lp} (h : validL l = true) {a b : Int} (hab : a ≤ b) : startL l a ≤ startL l b := by
  have := startL_add h a (b - a).toNat
  rw [show a + ((b - a).toNat : Int) = b by omega] at this
  omega
theorem startL_lt {l : List Lp} (h : validL l = true) {a b : Int} (hab : a < b) : startL l a < startL l b := by
  have h1 := startL_mono h (show a + 1 ≤ b by omega)
  have h2 := lenL_bd h a
  have h3 := startL_succ l a
  omega
theorem startL_bd {l : List Lp} (h : validL l = true) {day : Int} (h0 : 0 ≤ day) (h1 : day ≤ 34001) : 0 ≤ startL l day ∧ startL l day ≤ 2937700000000000 := by
  have := startL_mono h h0
  rw [startL_zero h] at this
  have := validL_off h day
  unfold startL at *
  omega

/-- Day d has the time 'at'. -/
def IsDay (l : List Lp) (t : Int) (d : Int) : Prop := startL l d ≤ t ∧ t < startL l (d + 1)
theorem IsDay.uniq {l : List Lp} (h : validL l = true) {t d e : Int} (h1 : IsDay l t d) (h2 : IsDay l t e) : d = e := by
  rcases Int.lt_trichotomy d e with h3 | h3 | h3
  · have := startL_mono h (show d + 1 ≤ e by omega)
    have := h1.2; have := h2.1; omega
  · exact h3
  · have := startL_mono h (show e + 1 ≤ d by omega)
    have := h2.2; have := h1.1; omega
theorem isDay_ex {l : List Lp} (h : validL l = true) {t : Int} (h0 : 0 ≤ t) (n : Nat) : t < startL l n → ∃ d : Nat, d < n ∧ IsDay l t d := by
  induction n with
  | zero =>
    intro hn
    have := startL_zero h
    rw [show ((0 : Nat) : Int) = 0 from rfl] at hn
    omega
  | succ n ih =>
    intro hn
    by_cases hlt : t < startL l n
    · obtain ⟨d, h1, h2⟩ := ih hlt
      exact ⟨d, by omega, h2⟩
    · exact ⟨n, by omega, by omega, by rw [show ((n : Int) + 1) = ((n + 1 : Nat) : Int) by omega]; exact hn⟩
open Classical in
noncomputable def dayL (l : List Lp) (t : Int) : Int := if h : ∃ d : Int, IsDay l t d then Classical.choose h else 0
theorem dayL_of {l : List Lp} (h : validL l = true) {t d : Int} (hd : IsDay l t d) : dayL l t = d := by
  have hex : ∃ d : Int, IsDay l t d := ⟨d, hd⟩
  unfold dayL
  rw [dif_pos hex]
  exact IsDay.uniq h (Classical.choose_spec hex) hd
/-- Which time has a day. -/
theorem dayL_spec {l : List Lp} (h : validL l = true) {t : Int} (h0 : 0 ≤ t) (h1 : t < startL l 34001) : IsDay l t (dayL l t) ∧ 0 ≤ dayL l t ∧ dayL l t ≤ 34000 := by
  obtain ⟨d, h2, h3⟩ := isDay_ex h h0 34001 h1
  rw [dayL_of h h3]
  exact ⟨h3, by omega, by omega⟩
theorem dayL_lt {l : List Lp} (h : validL l = true) {t d : Int} (hd : IsDay l t d) (h1 : d ≤ 34000) : t < startL l 34001 := by
  have := hd.2
  have := startL_mono h (show d + 1 ≤ 34001 by omega)
  omega
theorem dayL_ge {l : List Lp} (h : validL l = true) {t d : Int} (hd : IsDay l t d) (h1 : 0 ≤ d) : 0 ≤ t := by
  have := hd.1
  have := startL_mono h h1
  rw [startL_zero h] at this
  omega

/-- What Day answers: the day, and the error's number. -/
noncomputable def dayF (l : List Lp) (t : Int) : Int × Int :=
  if validL l = true ∧ 0 ≤ t ∧ t ≤ 3000000000000000 then (if t < startL l 34001 then (dayL l t, 0) else (0, 3)) else (0, 1)
def rightL (l : List Lp) (day : Int) : Bool := validL l && (decide (0 ≤ day) && decide (day ≤ 34000))
def startF (l : List Lp) (day : Int) : Int × Int := if rightL l day = true then (startL l day, 0) else (0, 1)
def lengthF (l : List Lp) (day : Int) : Int × Int := if rightL l day = true then (lenL l day, 0) else (0, 1)
theorem rightL_iff {l : List Lp} {day : Int} : rightL l day = true ↔ validL l = true ∧ 0 ≤ day ∧ day ≤ 34000 := by simp [rightL]
end Go.Proofs.YtcohdojfbnijpaaDoor
