import Derived.Test.YthjldbefjkbniaaW5
import Derived.Test.YthjldbefjkbniaaLib3
namespace Go.Proofs.Ythjldbefjkbniaa
open Go.RowKit Go.Sort
set_option linter.unusedSimpArgs false
set_option linter.unusedVariables false
set_option maxRecDepth 100000

theorem el_l : ElT Try.prog 33 22 (.slice none 0 0) 1 24 := ⟨by kernel_rfl, by kernel_rfl⟩

/-- The lists of the frames with which bytes begin, and how many bytes these have. -/
def lframes : Nat → List Int → List (List Int) × Nat
  | 0, _ => ([], 0)
  | f + 1, xs => match lnext xs with
    | none => ([], 0)
    | some (l, n) => (l :: (lframes f (xs.drop n)).1, n + (lframes f (xs.drop n)).2)

theorem lnext_bd {xs l : List Int} {n : Nat} (h : lnext xs = some (l, n)) : 11 ≤ n ∧ n ≤ xs.length := by
  unfold lnext at h
  split at h
  · cases h
  · split at h
    · cases h
    · split at h
      · simp only [Option.map_eq_some_iff, Prod.mk.injEq] at h
        obtain ⟨_, _, _, rfl⟩ := h
        omega
      · cases h

theorem lframes_nil (f : Nat) : lframes f [] = ([], 0) := by cases f <;> rfl
theorem lframes_step {f : Nat} {xs : List Int} (h : xs.length ≤ f) (hx : lnext xs = none) : lframes f xs = ([], 0) := by
  cases f with
  | zero => rfl
  | succ f => unfold lframes; rw [hx]
theorem lframes_more {f : Nat} {xs l : List Int} {n : Nat} (h : xs.length ≤ f) (hx : lnext xs = some (l, n)) : ∃ f', f = f' + 1 ∧ lframes f xs = (l :: (lframes f' (xs.drop n)).1, n + (lframes f' (xs.drop n)).2) := by
  have := lnext_bd hx
  cases f with
  | zero => omega
  | succ f => exact ⟨f, rfl, by rw [lframes, hx]⟩

def FramesPost (w w' : World) (e : Ending) (r : List (List Int) × Nat) : Prop :=
  ∃ a c, e = .returned (.tuple #[.slice a r.1.length c, .int .i64 r.2, .int .i64 0]) ∧ OwL .i64 22 w.heap.size w' a r.1.length c r.1 ∧ Ext w w'

set_option maxHeartbeats 400000 in
theorem rframes_any (a1 : Option Addr) (n1 c1 : Nat) (xs : List Int) (w : World) (h1 : Sl .u8 w a1 n1 c1 xs) (hs : n1 ≤ 100000) :
    Calls Try.prog 20 #[.slice a1 n1 c1] w fun e w' => FramesPost w w' e (lframes xs.length xs) := by
  have b1 := h1.bd
  have e1 := Lib.hid h1.hlen
  have hbig : ¬ (100000 : Int) < n1 := by omega
  go_enter Try.func20, Try.ntmps20
  go_wp2
  go_loopw [5, 6] (fun o i wr => ∃ (m at_ f c : Nat) (a : Option Addr) (yss : List (List Int)), i = .int .i64 at_ ∧ at_ ≤ n1 ∧ m ≤ at_ ∧ o = .slice a m c ∧ OwL .i64 22 w.heap.size wr a m c yss ∧ Ext w wr ∧ xs.length ≤ f + at_ ∧
     lframes xs.length xs = (yss ++ (lframes f (xs.drop at_)).1, at_ + (lframes f (xs.drop at_)).2)) (fun _ i _ => n1 - (intOf i).toNat)
  case atStart => exact ⟨0, 0, xs.length, 0, none, [], rfl, by omega, by omega, rfl, OwL.nil _ _ _ _, Ext.refl _, by omega, by simp⟩
  case round =>
    obtain ⟨m, at_, f, c, a, yss, rfl, hat, hma, rfl, ho, hE, hf, hfr⟩ := hrel
    have HF := Lib.hid hf
    have HR := Lib.hid hfr
    clear hf hfr
    have h1' := h1.ext hE
    have hsl := run_from (P := Try.prog) (T := 23) (by kernel_rfl) (fun _ => by kernel_rfl) a1 n1 c1 at_ hat
    rcases hr : lnext (xs.drop at_) with _ | ⟨l, n⟩
    · have HN := Lib.hid hr
      clear hr
      go_wp2_with fail
      refine (rnext_any _ _ _ (xs.drop at_) _ (h1'.from hat)).mono ?_
      rintro e w2 hp
      rw [HN.out] at hp
      obtain ⟨a2, n2, c2, m2, rfl, hE2⟩ := hp
      go_wp2
      go_ret3
      have hfin : lframes xs.length xs = (yss, at_) := by rw [HR.out, lframes_step (by rw [List.length_drop]; have := HF.out; omega) HN.out]; simp
      rw [hfin]
      have hl := ho.1
      subst hl
      exact ⟨a, c, rfl, ho.kept hE2, hE.trans hE2⟩
    · have HN := Lib.hid hr
      have hbd := lnext_bd hr
      rw [List.length_drop, e1.out] at hbd
      clear hr
      go_wp2_with fail
      refine (rnext_any _ _ _ (xs.drop at_) _ (h1'.from hat)).mono ?_
      rintro e w2 hp
      rw [HN.out] at hp
      obtain ⟨a2, c2, rfl, ho2, hwl, hE2⟩ := hp
      have hsl := ho2.sl hwl
      have HW := Lib.hid hwl
      clear hwl
      have hne : ∀ b off, a2 = some ⟨b, off, none⟩ → 0 < l.length → a ≠ some ⟨b, 0, none⟩ := by
        intro b off h2 _ h3
        obtain ⟨_, vs, hrow, _⟩ := ho
        have hlt := hrow.lt b (by rw [h3]; rfl)
        have hge := ho2.lt b (by rw [h2]; rfl)
        omega
      have HNE := Lib.hid hne
      clear hne
      have ho' := ho.kept hE2
      have hsz := hE.sz
      have hsz2 := hE2.sz
      go_wp2_with (at_builtin; refine appL el_l rfl _ _ rfl _ w.heap.size _ _ _ _ rfl ho' _ _ _ l hsl HNE.out rfl (by omega) (by unfold maxLen; omega) (by omega) ?_; intro g3 c3 w3 ho3 hB3)
      go_roundw
      case rel =>
        obtain ⟨f', hf', hfe⟩ := lframes_more (f := f) (by rw [List.length_drop]; have := HF.out; omega) HN.out
        refine ⟨m + 1, at_ + n, f', c3, _, yss ++ [l], by go_num, by omega, by omega, rfl, ho3, Below.trans (hE.trans hE2) hB3, by have := HF.out; omega, ?_⟩
        rw [HR.out, hfe, List.drop_drop]
        simp [Nat.add_assoc]
      case measure => simp [intOf]; omega

end Go.Proofs.Ythjldbefjkbniaa
