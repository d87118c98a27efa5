/-
  The inbox, plain laws: what is opened is well-formed; Take keeps that; the kinds.
-/
import Derived.Test.YtdmfdimhjemngaaGreatDoorIB
namespace Go.Proofs.YtdmfdimhjemngaaGreatDoor
open Go.RowKit Go.Sort Go.Shelf
set_option linter.unusedSimpArgs false
set_option linter.unusedVariables false

theorem gfrom_with (b : Bx) (g : List Rp) : ∀ (l : List Rp) (last : Int), gfrom { b with got := g } last l = gfrom b last l
  | [], _ => rfl
  | x :: l, last => by
    simp only [gfrom, gfrom_with b g l]
    rfl
structure FrmP (b : Bx) : Prop where
  host : 1 ≤ b.host ∧ b.host ≤ 64
  round : 1 ≤ b.round ∧ b.round ≤ 200
  sent : 0 ≤ b.sent ∧ b.sent ≤ 3000000000000000
  wait : 0 ≤ b.wait ∧ b.wait ≤ 1000000000
  asked : askB b.asked = true
  got : gfrom b 0 b.got = true
theorem frmX_iff {b : Bx} : frmX b = true ↔ FrmP b := by
  unfold frmX
  simp only [Bool.and_eq_true, inC_iff]
  exact ⟨fun h => ⟨h.1, h.2.1, h.2.2.1, h.2.2.2.1, h.2.2.2.2.1, h.2.2.2.2.2⟩, fun h => ⟨h.host, h.round, h.sent, h.wait, h.asked, h.got⟩⟩
theorem frm_open {host : Int} {rs : List (List Rp)} {sent wait : Int} {asked : List Int} (h : opnX host rs sent wait asked = true) (hl : rs.length ≠ 200) :
    opnE host rs sent wait asked = 0 ∧ opnB host rs sent wait asked = ⟨host, (rs.length : Int) + 1, headF rs, sent, wait, asked, []⟩ ∧ frmX ⟨host, (rs.length : Int) + 1, headF rs, sent, wait, asked, []⟩ = true := by
  have e : opnE host rs sent wait asked = 0 := by unfold opnE; rw [if_pos h, if_neg hl]
  refine ⟨e, by unfold opnB; rw [if_pos e], ?_⟩
  unfold opnX at h
  simp only [Bool.and_eq_true] at h
  have hv := h.1
  have hlen := validF_len hv
  unfold validF at hv
  simp only [Bool.and_eq_true] at hv
  refine frmX_iff.2 ⟨inC_iff.1 hv.1, ⟨?_, ?_⟩, inC_iff.1 h.2.1, inC_iff.1 h.2.2.1, h.2.2.2, rfl⟩
  · show 1 ≤ (rs.length : Int) + 1
    omega
  · show (rs.length : Int) + 1 ≤ 200
    omega
theorem own_asked {b : Bx} {r : Rp} (h : ownB b r = true) : r.a ∈ b.asked := by
  unfold ownB at h
  simp only [Bool.and_eq_true, decide_eq_true_eq] at h
  exact h.1
theorem own_pos {b : Bx} {r : Rp} (hf : FrmP b) (h : ownB b r = true) : 0 < r.a ∧ r.a ≤ 16 := by
  have h1 := ascI_gt (l := b.asked) (last := 0) hf.asked r.a (own_asked h)
  exact h1
theorem kd_fresh {b : Bx} {r : Rp} {t : Int} : kdX b (some r) t = 1 ↔ ownB b r = true ∧ (b.got.any fun x => x.a == r.a) = false ∧ ¬ b.sent + b.wait < t := by
  unfold kdX kindX
  simp only
  rcases h1 : ownB b r with _ | _
  · simp
  · rcases h2 : (b.got.any fun x => x.a == r.a) with _ | _
    · by_cases h3 : b.sent + b.wait < t <;> simp [h3]
    · simp
theorem kd_none {b : Bx} {t : Int} : kdX b none t = 5 := rfl
theorem kd_other {b : Bx} {r : Rp} {t : Int} : kdX b (some r) t = 3 ↔ ownB b r = false := by
  unfold kdX kindX
  simp only
  rcases h1 : ownB b r with _ | _
  · simp
  · rcases h2 : (b.got.any fun x => x.a == r.a) with _ | _
    · by_cases h3 : b.sent + b.wait < t <;> simp [h3]
    · simp
theorem any_false {l : List Rp} {r : Rp} (h : (l.any fun x => x.a == r.a) = false) : ∀ x ∈ l, x.a ≠ r.a := by
  intro x hx e
  rw [List.any_eq_false] at h
  exact h x hx (by simp [e])
theorem got_with (b : Bx) (t : Int) : gotX b none t = b.got := rfl
theorem got_some {b : Bx} {r : Rp} {t : Int} : gotX b (some r) t = if kdX b (some r) t = 1 then insR r b.got else b.got := rfl
/-- What Take returns is well-formed. -/
theorem tk_frm {b : Bx} {p : Option Rp} {t : Int} (hf : frmX b = true) (hw : ∀ r, p = some r → wfR r = true) : frmX { b with got := gotX b p t } = true := by
  have hF := frmX_iff.1 hf
  refine frmX_iff.2 ⟨hF.host, hF.round, hF.sent, hF.wait, hF.asked, ?_⟩
  show gfrom { b with got := gotX b p t } 0 (gotX b p t) = true
  rw [gfrom_with]
  rcases p with _ | r
  · exact hF.got
  · rw [got_some]
    by_cases h : kdX b (some r) t = 1
    · rw [if_pos h]
      obtain ⟨h1, h2, _⟩ := kd_fresh.1 h
      exact gfrom_ins (hw r rfl) h1 hF.got (own_pos hF h1).1 (any_false h2)
    · rw [if_neg h]
      exact hF.got
theorem tkE_zero {b : Bx} {t : Int} (hf : frmX b = true) (h0 : 0 ≤ t) (h1 : t ≤ 3000000000000000) (h2 : b.sent ≤ t) : tkE b t = 0 := by
  unfold tkE
  rw [hf, inC_iff.2 ⟨h0, h1⟩, if_pos (by decide), if_neg (by omega)]
theorem tkE_ok {b : Bx} {t : Int} (h : tkE b t = 0) : frmX b = true ∧ (0 ≤ t ∧ t ≤ 3000000000000000) ∧ b.sent ≤ t := by
  unfold tkE at h
  split at h
  · rename_i h1
    simp only [Bool.and_eq_true, inC_iff] at h1
    split at h
    · omega
    · exact ⟨h1.1, h1.2, by omega⟩
  · omega
theorem gfrom_len {b : Bx} : ∀ {l : List Rp} {last : Int}, gfrom b last l = true → last ≤ 16 → (∀ x ∈ l, x.a ≤ 16) → last + l.length ≤ 16
  | [], _, _, h, _ => by simpa using h
  | x :: l, last, h, h0, hx => by
    simp only [gfrom, Bool.and_eq_true, decide_eq_true_eq] at h
    have := gfrom_len h.2.2.2 (hx x (by simp)) (fun y hy => hx y (by simp [hy]))
    simp only [List.length_cons]
    push_cast
    omega
theorem frm_got_len {b : Bx} (hf : FrmP b) : b.got.length ≤ 16 := by
  have := gfrom_len hf.got (by omega) (fun x hx => (own_pos hf (gfrom_mem hf.got x hx).2.2).2)
  omega
theorem validF_app {host : Int} {rs : List (List Rp)} {r : List Rp} (hv : validF host rs = true) (hl : rs.length < 200) (hf : fitsF host ((rs.length : Int) + 1) (headF rs) r = true) : validF host (rs ++ [r]) = true := by
  unfold validF at hv ⊢
  simp only [Bool.and_eq_true, decide_eq_true_eq, all_range] at hv ⊢
  refine ⟨hv.1, by rw [List.length_append]; simp; omega, fun i hi => ?_⟩
  rw [List.length_append] at hi
  simp only [List.length_cons, List.length_nil] at hi
  by_cases hlt : i < rs.length
  · have := hv.2.2 i hlt
    unfold validAt at this ⊢
    rw [List.take_append_of_le_length (by omega), nthS_app_left hlt]
    exact this
  · obtain rfl : i = rs.length := by omega
    unfold validAt
    rw [List.take_left, nthS_app_right (Nat.le_refl _), Nat.sub_self]
    exact hf
theorem apd_ok {host : Int} {rs : List (List Rp)} {r : List Rp} (hv : validF host rs = true) (hl : rs.length < 200) (hf : fitsF host ((rs.length : Int) + 1) (headF rs) r = true) : apdH host rs r = host ∧ apdL host rs r = rs ++ [r] ∧ apdE host rs r = 0 := by
  have h : apdE host rs r = 0 := by
    unfold apdE
    rw [if_pos hv, if_neg (by omega), if_pos hf]
  unfold apdH apdL
  rw [if_pos h, if_pos h]
  exact ⟨rfl, rfl, h⟩
theorem fits_of_got {b : Bx} (hF : FrmP b) : fitsF b.host b.round b.head b.got = true := by
  unfold fitsF
  rw [all_range]
  intro i hi
  obtain ⟨h1, h2, _, h4⟩ := gfrom_iff.1 hF.got i hi
  unfold ownB at h2
  simp only [Bool.and_eq_true] at h2
  unfold stepB' rightB
  simp only [Bool.and_eq_true]
  refine ⟨?_, h1, h2.2.1, h2.2.2.1, h2.2.2.2⟩
  unfold riseB
  rcases i with _ | i
  · rfl
  · simp only [Bool.or_eq_true, decide_eq_true_eq]
    exact .inr (h4 (by omega))
theorem insR_erase {r : Rp} : ∀ {l : List Rp}, (∀ x ∈ l, x.a ≠ r.a) → (insR r l).erase r = l
  | [], _ => by simp [insR]
  | x :: l, h => by
    have hx : x ≠ r := fun e => h x (by simp) (by rw [e])
    simp only [insR]
    split
    · simp
    · rw [List.erase_cons_tail (by simpa using hx), insR_erase (fun y hy => h y (by simp [hy]))]
end Go.Proofs.YtdmfdimhjemngaaGreatDoor
