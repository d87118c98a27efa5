
import Derived.Test.YtcpojkodidflcaaW3
namespace Go.Proofs.Ytcpojkodidflcaa
open Go.RowKit
set_option linter.unusedSimpArgs false
set_option linter.unusedVariables false
set_option maxRecDepth 100000

/-- n integers, one behind the other, from a place on, and the place behind them. -/
def rdMany (xs : List Int) : Nat → Nat → Option (List Int × Nat)
  | 0, at_ => some ([], at_)
  | n + 1, at_ => match rdAt xs at_ with
    | none => none
    | some (x, next) => (rdMany xs n next).map fun (l, e) => (x :: l, e)

/-- The list whose bytes they are. -/
def lget (xs : List Int) : Option (List Int) :=
  match rdAt xs 0 with
  | none => none
  | some (m, at_) => if m < 0 ∨ 1000 < m then none else
    match rdMany xs m.toNat at_ with
    | none => none
    | some (l, e) => if e = xs.length then some l else none

theorem rdAt_bd {xs : List Int} {at_ next : Nat} {n : Int} (hw : ∀ x ∈ xs, (Lit.int .u8 x).wf = true) (h : rdAt xs at_ = some (n, next)) :
    at_ < next ∧ next ≤ at_ + 10 ∧ next ≤ xs.length ∧ -9223372036854775808 ≤ n ∧ n ≤ 9223372036854775807 := by
  unfold rdAt at h
  simp only [Option.map_eq_some_iff, Prod.mk.injEq, Prod.exists] at h
  obtain ⟨v, m, h1, rfl, rfl⟩ := h
  have := rdL_bd _ 0 v m (fun x hx => hw x (List.mem_of_mem_drop hx)) h1
  rw [List.length_drop] at this
  have hv : v < 18446744073709551616 := by simpa using this.2.2.2
  refine ⟨by omega, by omega, by omega, ?_, ?_⟩ <;> unfold unnum <;> split <;> omega

theorem rdMany_wf {xs : List Int} (hw : ∀ x ∈ xs, (Lit.int .u8 x).wf = true) : ∀ (n at_ e : Nat) (l : List Int), rdMany xs n at_ = some (l, e) → l.length = n ∧ ∀ x ∈ l, (Lit.int .i64 x).wf = true
  | 0, at_, e, l, h => by simp [rdMany] at h; obtain ⟨rfl, rfl⟩ := h; simp
  | n + 1, at_, e, l, h => by
    unfold rdMany at h
    split at h
    · cases h
    · rename_i x next hx
      simp only [Option.map_eq_some_iff, Prod.mk.injEq, Prod.exists] at h
      obtain ⟨l', e', h1, rfl, rfl⟩ := h
      obtain ⟨i1, i2⟩ := rdMany_wf hw n next e' l' h1
      refine ⟨by simp [i1], fun y hy => ?_⟩
      rcases List.mem_cons.1 hy with rfl | hy
      · have := rdAt_bd hw hx
        simp [Lit.wf, IntKind.min, IntKind.max, IntKind.bits, IntKind.signed]; omega
      · exact i2 y hy

/-- What Get leaves. -/
def GetPost (w w' : World) (e : Ending) (r : Option (List Int)) : Prop :=
  match r with
  | none => e = .returned (.tuple #[.slice none 0 0, .int .i64 7]) ∧ Ext w w'
  | some l => ∃ a c, e = .returned (.tuple #[.slice a l.length c, .int .i64 0]) ∧ OwI .i64 3 w.heap.size w' a l.length c l ∧ Ext w w'

theorem getPost_none {w w' : World} {e : Ending} {r : Option (List Int)} (hr : r = none) (h : e = .returned (.tuple #[.slice none 0 0, .int .i64 7])) (hE : Ext w w') : GetPost w w' e r := by
  subst hr; exact ⟨h, hE⟩

set_option maxHeartbeats 400000 in
theorem rget_any (a1 : Option Addr) (n1 c1 : Nat) (xs : List Int) (w : World) (h1 : Sl .u8 w a1 n1 c1 xs) :
    Calls Try.prog 30 #[.slice a1 n1 c1] w fun e w' => GetPost w w' e (lget xs) := by
  have b1 := h1.bd
  have e1 := Lib.hid h1.hlen
  have H0 := Lib.hid h1.wf
  rcases hr0 : rdAt xs 0 with _ | ⟨m, at0⟩
  · have R0 := Lib.hid hr0
    clear hr0
    go_enter Try.func30, Try.ntmps30
    go_wp2_with (go_at_call 45; refine (rread_any _ _ _ xs 0 _ h1 (by omega)).mono ?_; rintro e w' ⟨rfl, rfl⟩; rw [R0.out]; unfold rdV)
    go_ret2
    exact getPost_none (by unfold lget; rw [R0.out]) rfl (Ext.refl _)
  · have R0 := Lib.hid hr0
    have bd0 := rdAt_bd h1.wf hr0
    clear hr0
    by_cases hm : m < 0 ∨ 1000 < m
    · have hbad : lget xs = none := by unfold lget; rw [R0.out]; simp only [hm, if_true]
      rcases hm with hm | hm
      all_goals
        go_enter Try.func30, Try.ntmps30
        go_wp2_with (go_at_call 45; refine (rread_any _ _ _ xs 0 _ h1 (by omega)).mono ?_; rintro e w' ⟨rfl, rfl⟩; rw [R0.out]; unfold rdV)
        go_ret2
        exact getPost_none hbad rfl (Ext.refl _)
    · obtain ⟨M, rfl⟩ : ∃ M : Nat, m = (M : Int) := ⟨m.toNat, by omega⟩
      have hM : M ≤ 1000 := by omega
      have hgo : Hid (lget xs = match rdMany xs M at0 with | none => none | some (l, e) => if e = xs.length then some l else none) := by
        unfold Hid lget; rw [R0.out]; simp only [hm, if_false]; rfl
      clear hm
      go_enter Try.func30, Try.ntmps30
      go_wp2_with (go_at_call 45; refine (rread_any _ _ _ xs 0 _ h1 (by omega)).mono ?_; rintro e w' ⟨rfl, rfl⟩; rw [R0.out]; unfold rdV)
      go_loopw [5, 7, 8] (fun p o i wr => ∃ (k q c : Nat) (a : Option Addr) (ys : List Int), k ≤ M ∧ i = .int .i64 k ∧ p = .int .i64 q ∧ q ≤ 10 + 10 * k ∧ o = .slice a k c ∧ OwI .i64 3 w.heap.size wr a k c ys ∧ Ext w wr ∧
        (∀ x ∈ ys, (Lit.int .i64 x).wf = true) ∧ rdMany xs M at0 = (rdMany xs (M - k) q).map fun (l, e) => (ys ++ l, e)) (fun _ _ i _ => M - (intOf i).toNat)
      case atStart => exact ⟨0, at0, 0, none, [], by omega, rfl, rfl, by omega, rfl, OwI.nil _ _ _ _, Ext.refl _, by simp, by simp⟩
      case round =>
        obtain ⟨k, q, c, a, ys, hk, rfl, rfl, hq, rfl, ho, hE, hyw, hrm⟩ := hrel
        have HR := Lib.hid hrm
        have HY := Lib.hid hyw
        clear hrm hyw
        have h1' := h1.ext hE
        have hsz := hE.sz
        by_cases hlt : k < M
        · have hMk : M - k = (M - (k + 1)) + 1 := by omega
          have HMk := Lib.hid hMk
          clear hMk
          rcases hr1 : rdAt xs q with _ | ⟨x, next⟩
          · have R1 := Lib.hid hr1
            clear hr1
            go_wp2_with (go_at_call 45; refine (rread_any _ _ _ xs q _ h1' (by omega)).mono ?_; rintro e w' ⟨rfl, rfl⟩; rw [R1.out]; unfold rdV)
            go_ret2
            refine getPost_none ?_ rfl hE
            rw [hgo.out, HR.out, HMk.out]
            simp only [rdMany, R1.out]; rfl
          · have R1 := Lib.hid hr1
            have bd1 := rdAt_bd H0.out hr1
            clear hr1
            go_wp2_with (first | (go_at_call 45; refine (rread_any _ _ _ xs q _ h1' (by omega)).mono ?_; rintro e w' ⟨rfl, rfl⟩; rw [R1.out]; unfold rdV) | (at_builtin; refine app1 el_i64 rfl _ _ rfl _ w.heap.size _ _ _ _ _ rfl ho rfl (by omega) (by unfold maxLen; omega) (by omega) ?_; intro g c2 w2 hown2 hB2))
            go_roundw
            case rel =>
              refine ⟨k + 1, next, c2, _, _, by omega, by go_num, rfl, by omega, rfl, hown2, Below.trans hE hB2, ?_, ?_⟩
              · intro y hy
                rcases List.mem_append.1 hy with h | h
                · exact HY.out y h
                · simp only [List.mem_singleton] at h; subst h
                  simp [Lit.wf, IntKind.min, IntKind.max, IntKind.bits, IntKind.signed]; omega
              · rw [HR.out, HMk.out]
                simp only [rdMany, R1.out, Option.map_map]
                congr 1
                funext ⟨l, e⟩
                simp
            case measure => simp [intOf]; omega
        · obtain rfl : k = M := by omega
          have hfin : lget xs = if q = n1 then some ys else none := by
            rw [hgo.out, HR.out, Nat.sub_self]
            simp only [rdMany, Option.map_some, List.append_nil]
            rw [e1.out]
          have HF := Lib.hid hfin
          clear hfin
          by_cases hend : q = n1
          · have HE := Lib.hid hend
            have hq1 : ((q : Int) != n1) = false := by simp [hend]
            clear hend
            go_wp2
            go_ret2
            rw [HF.out, if_pos HE.out]
            have hl := ho.hlen
            subst hl
            exact ⟨a, c, rfl, ho, hE⟩
          · have HE := Lib.hid hend
            have hq1 : ((q : Int) != n1) = true := by simp; omega
            clear hend
            go_wp2
            go_ret2
            exact getPost_none (by rw [HF.out, if_neg HE.out]) rfl hE


/-- The three bytes of a length. -/
def len3 (n : Nat) : List Int := [((n / 65536 % 256 : Nat) : Int), ((n / 256 % 256 : Nat) : Int), ((n % 256 : Nat) : Int)]
/-- The frame of a list. -/
def lframe (xs : List Int) : List Int := len3 (lput xs).length ++ lput xs ++ dig8 (len3 (lput xs).length ++ lput xs)

theorem len3_wf (n : Nat) : ∀ x ∈ len3 n, (Lit.int .u8 x).wf = true := by
  intro x hx
  simp only [len3, List.mem_cons, List.not_mem_nil, or_false] at hx
  rcases hx with rfl | rfl | rfl <;> simp [Lit.wf, IntKind.min, IntKind.max, IntKind.bits, IntKind.signed] <;> omega
theorem app_wf {k : IntKind} {xs ys : List Int} (h1 : ∀ x ∈ xs, (Lit.int k x).wf = true) (h2 : ∀ x ∈ ys, (Lit.int k x).wf = true) : ∀ x ∈ xs ++ ys, (Lit.int k x).wf = true := by
  intro x hx; rcases List.mem_append.1 hx with h | h
  · exact h1 x h
  · exact h2 x h
theorem dig8_len (xs : List Int) : (dig8 xs).length = 8 := rfl
theorem lframe_wf (xs : List Int) : ∀ x ∈ lframe xs, (Lit.int .u8 x).wf = true := app_wf (app_wf (len3_wf _) (lput_wf _)) (be8_wf _)
theorem lframe_len (xs : List Int) : (lframe xs).length = (lput xs).length + 11 := by
  simp only [lframe, List.length_append, dig8_len]; simp [len3]; omega

end Go.Proofs.Ytcpojkodidflcaa
