/-
  The plain laws of the frames: the frames of lists, one behind the other, are told, whatever stands behind them. No program in sight.
-/
import Derived.Test.YthjldbefjkbniaaPl
namespace Go.Proofs.Ythjldbefjkbniaa
set_option linter.unusedSimpArgs false
set_option linter.unusedVariables false
set_option maxRecDepth 100000

theorem lput_bd {l : List Int} (hl : l.length ≤ 1000) (wl : ∀ x ∈ l, (Lit.int .i64 x).wf = true) : (lput l).length ≤ 10010 := by
  have := (lput_len wl (by omega)).2; omega

theorem n3_len3 (n : Nat) (h : n < 65536) (t : List Int) : n3 (len3 n ++ t) = n := by
  simp [n3, len3, nth]
  omega
theorem len3_len (n : Nat) : (len3 n).length = 3 := rfl

theorem lnext_frame {l : List Int} (hl : l.length ≤ 1000) (wl : ∀ x ∈ l, (Lit.int .i64 x).wf = true) (t : List Int) : lnext (lframe l ++ t) = some (l, (lframe l).length) := by
  have hb := lput_bd hl wl
  have hg := lget_lput wl hl
  have hlen := lframe_len l
  have e0 : lframe l ++ t = len3 (lput l).length ++ (lput l ++ (dig8 (len3 (lput l).length ++ lput l) ++ t)) := by simp [lframe]
  have e1 : n3 (lframe l ++ t) = (lput l).length := by rw [e0, n3_len3 _ (by omega)]
  have e2 : (lframe l ++ t).take ((lput l).length + 3) = len3 (lput l).length ++ lput l := by
    rw [e0, ← List.append_assoc]
    exact List.take_left' (by simp [len3_len]; omega)
  have e3 : ((lframe l ++ t).drop ((lput l).length + 3)).take 8 = dig8 (len3 (lput l).length ++ lput l) := by
    rw [e0, ← List.append_assoc, List.drop_left' (by simp [len3_len]; omega)]
    exact List.take_left' (dig8_len _)
  have e4 : ((lframe l ++ t).drop 3).take (lput l).length = lput l := by
    rw [e0, List.drop_left' (len3_len _)]
    exact List.take_left' rfl
  have e5 : (lframe l ++ t).length = (lput l).length + 11 + t.length := by rw [List.length_append, hlen]
  unfold lnext
  rw [if_neg (by omega), e1, if_neg (by omega), e2, e3, if_pos rfl, e4, hg, hlen]
  rfl

theorem take3 {xs : List Int} (h : 3 ≤ xs.length) : xs.take 3 = [nth xs 0, nth xs 1, nth xs 2] := by
  match xs, h with
  | a :: b :: c :: t, _ => simp [nth]

theorem lnext_conv {xs l : List Int} {n : Nat} (hw : ∀ x ∈ xs, (Lit.int .u8 x).wf = true) (h : lnext xs = some (l, n)) : xs.take n = lframe l ∧ l.length ≤ 1000 ∧ (∀ x ∈ l, (Lit.int .i64 x).wf = true) ∧ n = (lframe l).length ∧ n ≤ xs.length := by
  unfold lnext at h
  split at h
  · cases h
  rename_i h3
  split at h
  · cases h
  rename_i h11
  split at h
  · rename_i hd
    rcases hg : lget ((xs.drop 3).take (n3 xs)) with _ | l'
    · rw [hg] at h; cases h
    · rw [hg] at h
      simp only [Option.map_some, Option.some.injEq, Prod.mk.injEq] at h
      obtain ⟨rfl, rfl⟩ := h
      obtain ⟨h1, h2, h4⟩ := lput_lget (fun x hx => hw x (List.mem_of_mem_drop (List.mem_of_mem_take hx))) hg
      have hb := lput_bd h2 h4
      have hlen : (lput l').length = n3 xs := by rw [h1, List.length_take, List.length_drop]; omega
      have v0 := wf_u8 (hw _ (nth_mem (xs := xs) (i := 0) (by omega)))
      have v1 := wf_u8 (hw _ (nth_mem (xs := xs) (i := 1) (by omega)))
      have v2 := wf_u8 (hw _ (nth_mem (xs := xs) (i := 2) (by omega)))
      have e3 : len3 (lput l').length = xs.take 3 := by
        rw [take3 (by omega), hlen]
        have hN : n3 xs = (nth xs 0 * 65536 + nth xs 1 * 256 + nth xs 2).toNat := rfl
        unfold len3
        congr 1
        · omega
        · congr 1
          · omega
          · congr 1; omega
      have e4 : xs.take (n3 xs + 3) = len3 (lput l').length ++ lput l' := by
        rw [e3, h1, Nat.add_comm, List.take_add]
      have hlf := lframe_len l'
      refine ⟨?_, h2, h4, by omega, by omega⟩
      unfold lframe
      rw [← e4, hd, show n3 xs + 11 = (n3 xs + 3) + 8 from rfl, List.take_add]
  · cases h

/-- What is shorter than its frame is no frame. -/
theorem lnext_cut {l : List Int} (hl : l.length ≤ 1000) (wl : ∀ x ∈ l, (Lit.int .i64 x).wf = true) (t : List Int) {k : Nat} (hk : k < (lframe l).length) : lnext ((lframe l ++ t).take k) = none := by
  rcases h : lnext ((lframe l ++ t).take k) with _ | ⟨m, n⟩
  · rfl
  · have hw : ∀ x ∈ (lframe l ++ t).take k, (Lit.int .u8 x).wf = true := by
      rw [List.take_append_of_le_length (by omega)]
      exact fun x hx => lframe_wf l x (List.mem_of_mem_take hx)
    obtain ⟨h1, h2, h3, h4, h5⟩ := lnext_conv hw h
    rw [List.length_take] at h5
    have h6 := lnext_frame h2 h3 (((lframe l ++ t).drop n))
    rw [← h1, List.take_take, Nat.min_eq_left (by omega), List.take_append_drop, lnext_frame hl wl t] at h6
    simp only [Option.some.injEq, Prod.mk.injEq] at h6
    obtain ⟨rfl, h6⟩ := h6
    rw [h4] at h5
    omega

theorem lframes_fuel : ∀ (f : Nat) (xs : List Int), xs.length ≤ f → lframes f xs = lframes xs.length xs := by
  intro f
  induction f using Nat.strongRecOn with
  | _ f ih =>
    intro xs hf
    rcases hx : lnext xs with _ | ⟨l, n⟩
    · rw [lframes_step hf hx, lframes_step (Nat.le_refl _) hx]
    · have hb := lnext_bd hx
      obtain ⟨f1, e1, h1⟩ := lframes_more hf hx
      obtain ⟨f2, e2, h2⟩ := lframes_more (Nat.le_refl _) hx
      rw [h1, h2, ih f1 (by omega) (xs.drop n) (by rw [List.length_drop]; omega)]
      by_cases hlt : f2 < f
      · rw [ih f2 hlt (xs.drop n) (by rw [List.length_drop]; omega)]
      · omega

/-- The frames of lists, one behind the other. -/
def frs (ls : List (List Int)) : List Int := ls.flatMap lframe
def okL (ls : List (List Int)) : Prop := ∀ l ∈ ls, l.length ≤ 1000 ∧ ∀ x ∈ l, (Lit.int .i64 x).wf = true

theorem frs_cons (l : List Int) (ls : List (List Int)) : frs (l :: ls) = lframe l ++ frs ls := rfl
theorem frs_wf (ls : List (List Int)) : ∀ x ∈ frs ls, (Lit.int .u8 x).wf = true := by
  intro x hx
  simp only [frs, List.mem_flatMap] at hx
  obtain ⟨l, _, h⟩ := hx
  exact lframe_wf l x h

def lfr (xs : List Int) : List (List Int) × Nat := lframes xs.length xs
theorem lfr_none {xs : List Int} (h : lnext xs = none) : lfr xs = ([], 0) := lframes_step (Nat.le_refl _) h
theorem lfr_some {xs l : List Int} {n : Nat} (h : lnext xs = some (l, n)) : lfr xs = (l :: (lfr (xs.drop n)).1, n + (lfr (xs.drop n)).2) := by
  obtain ⟨f, e, h1⟩ := lframes_more (Nat.le_refl _) h
  have hb := lnext_bd h
  unfold lfr
  rw [h1, lframes_fuel f (xs.drop n) (by rw [List.length_drop]; omega)]

/-- The lists are told first, as if they stood alone. -/
theorem lfr_frs (t : List Int) : ∀ ls, okL ls → lfr (frs ls ++ t) = (ls ++ (lfr t).1, (frs ls).length + (lfr t).2)
  | [], _ => by simp [frs]
  | l :: ls, h => by
    obtain ⟨h1, h2⟩ := h l (by simp)
    have e := lnext_frame h1 h2 (frs ls ++ t)
    rw [frs_cons, List.append_assoc, lfr_some e, List.drop_left, lfr_frs t ls (fun m hm => h m (by simp [hm]))]
    simp [Nat.add_assoc]

/-- What is told to be frames is the frames of the lists that are told. -/
theorem lfr_conv : ∀ (n : Nat) (xs : List Int), xs.length ≤ n → (∀ x ∈ xs, (Lit.int .u8 x).wf = true) → okL (lfr xs).1 ∧ (lfr xs).2 ≤ xs.length ∧ frs (lfr xs).1 = xs.take (lfr xs).2
  | 0, xs, h, hw => by
    have : xs = [] := List.eq_nil_of_length_eq_zero (by omega)
    subst this
    rw [lfr_none (by decide)]
    exact ⟨by simp [okL], by simp, by simp [frs]⟩
  | n + 1, xs, h, hw => by
    rcases hx : lnext xs with _ | ⟨l, m⟩
    · rw [lfr_none hx]
      exact ⟨by simp [okL], by simp, by simp [frs]⟩
    · have hb := lnext_bd hx
      obtain ⟨h1, h2, h3, h4, h5⟩ := lnext_conv hw hx
      obtain ⟨i1, i2, i3⟩ := lfr_conv n (xs.drop m) (by rw [List.length_drop]; omega) (fun x hx => hw x (List.mem_of_mem_drop hx))
      rw [lfr_some hx]
      simp only
      rw [List.length_drop] at i2
      refine ⟨?_, by omega, ?_⟩
      · intro y hy
        rcases List.mem_cons.1 hy with rfl | hy
        · exact ⟨h2, h3⟩
        · exact i1 y hy
      · rw [frs_cons, i3, List.take_add, h1]

/-- The frames that are cut are told as far as they are whole. -/
theorem lfr_cut {ls : List (List Int)} (h : okL ls) {k j : Nat} (hj : j ≤ ls.length) (h1 : (frs (ls.take j)).length ≤ k) (h2 : j < ls.length → k < (frs (ls.take (j + 1))).length) (hk : k ≤ (frs ls).length) :
    lfr ((frs ls).take k) = (ls.take j, (frs (ls.take j)).length) := by
  have e : frs ls = frs (ls.take j) ++ frs (ls.drop j) := by unfold frs; rw [← List.flatMap_append, List.take_append_drop]
  have e2 : (frs ls).take k = frs (ls.take j) ++ (frs (ls.drop j)).take (k - (frs (ls.take j)).length) := by
    rw [e, List.take_append, List.take_of_length_le h1]
  have hn : lnext ((frs (ls.drop j)).take (k - (frs (ls.take j)).length)) = none := by
    rcases Nat.lt_or_ge j ls.length with hlt | hge
    · have h3 := h2 hlt
      have h4 : frs (ls.take (j + 1)) = frs (ls.take j) ++ lframe ls[j] := by
        rw [List.take_succ_eq_append_getElem hlt]
        unfold frs
        rw [List.flatMap_append]
        simp
      rw [h4, List.length_append] at h3
      rw [List.drop_eq_getElem_cons hlt, frs_cons]
      obtain ⟨h5, h6⟩ := h ls[j] (List.getElem_mem hlt)
      exact lnext_cut h5 h6 _ (by omega)
    · rw [List.drop_eq_nil_of_le hge]
      show lnext (([] : List Int).take _) = none
      rw [List.take_nil]
      decide
  rw [e2, lfr_frs _ _ (fun l hl => h l (List.mem_of_mem_take hl)), lfr_none hn]
  simp

end Go.Proofs.Ythjldbefjkbniaa
