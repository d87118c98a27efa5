import Derived.Test.YthjldbefjkbniaaW12
namespace Go.Proofs.Ythjldbefjkbniaa
open Go.RowKit Go.Sort Go.Shelf
set_option linter.unusedSimpArgs false
set_option linter.unusedVariables false
set_option maxRecDepth 100000

/-- What a call of first has laid into the three variables of Frames. -/
def NextSt (wr : World) (a : Option Addr) (r : Option (List Int × Nat)) (v7 v8 v9 : Value) : Prop :=
  ∃ a2 n2 c2 k2 b2, v7 = .slice a2 n2 c2 ∧ v8 = .int .i64 k2 ∧ v9 = .bool b2 ∧ (r = none → b2 = false) ∧
    ∀ l n, r = some (l, n) → b2 = true ∧ k2 = (n : Int) ∧ n2 = l.length ∧ Sl .i64 wr a2 n2 c2 l ∧ (∀ b off, a2 = some ⟨b, off, none⟩ → 0 < n2 → a ≠ some ⟨b, 0, none⟩)

theorem nextSt_none {wr : World} {a : Option Addr} {r : Option (List Int × Nat)} (hr : r = none) (a2 : Option Addr) (n2 c2 : Nat) (k2 : Int) : NextSt wr a r (.slice a2 n2 c2) (.int .i64 k2) (.bool false) :=
  ⟨a2, n2, c2, k2, false, rfl, rfl, rfl, fun _ => rfl, fun l n h => by rw [hr] at h; cases h⟩
theorem nextSt_some {wr : World} {a : Option Addr} {r : Option (List Int × Nat)} {l : List Int} {n : Nat} (hr : r = some (l, n)) (a2 : Option Addr) (c2 : Nat) (hs : Sl .i64 wr a2 l.length c2 l)
    (hne : ∀ b off, a2 = some ⟨b, off, none⟩ → 0 < l.length → a ≠ some ⟨b, 0, none⟩) : NextSt wr a r (.slice a2 l.length c2) (.int .i64 n) (.bool true) := by
  refine ⟨a2, l.length, c2, n, true, rfl, rfl, rfl, fun h => (by rw [hr] at h; cases h), ?_⟩
  intro l' n' h
  rw [hr] at h
  simp only [Option.some.injEq, Prod.mk.injEq] at h
  obtain ⟨rfl, rfl⟩ := h
  exact ⟨rfl, rfl, rfl, hs, hne⟩

theorem ne_of_fresh {T E : TypeId} {base : Nat} {wr w2 : World} {a a2 : Option Addr} {n c m c2 : Nat} {yss : List (List Int)} {l : List Int} (ho : OwL .i64 T base wr a n c yss) (ho2 : OwI .i64 E wr.heap.size w2 a2 m c2 l) :
    ∀ b off, a2 = some ⟨b, off, none⟩ → 0 < m → a ≠ some ⟨b, 0, none⟩ := by
  intro b off h2 _ h3
  obtain ⟨_, vs, hrow, _⟩ := ho
  have hlt := hrow.lt b (by rw [h3]; rfl)
  have hge := ho2.lt b (by rw [h2]; rfl)
  omega

set_option maxHeartbeats 1000000 in
theorem frames_any (a1 : Option Addr) (n1 c1 : Nat) (xs : List Int) (w : World) (h1 : Sl .u8 w a1 n1 c1 xs) (hs : n1 ≤ 100000) :
    Calls Try.prog 19 #[.slice a1 n1 c1] w fun e w' => FramesPost w w' e (lframes xs.length xs) := by
  have b1 := h1.bd
  have e1 := Lib.hid h1.hlen
  have hbig : ¬ (100000 : Int) < n1 := by omega
  go_enter Try.func19, Try.ntmps19
  go_wp2_with fail
  refine (first_any _ _ _ xs _ h1 (by omega)).mono ?_
  intro e w1 hp
  obtain ⟨v7, v8, v9, rfl, hst, hE1⟩ : ∃ v7 v8 v9, e = .returned (.tuple #[v7, v8, v9]) ∧ NextSt w1 none (lnext xs) v7 v8 v9 ∧ Ext w w1 := by
    rcases hr : lnext xs with _ | ⟨l, n⟩
    · rw [hr] at hp
      obtain ⟨a, n, c, m, rfl, hE⟩ := hp
      exact ⟨_, _, _, rfl, nextSt_none rfl _ _ _ _, hE⟩
    · rw [hr] at hp
      obtain ⟨a, c, rfl, ho, hwl, hE⟩ := hp
      exact ⟨_, _, _, rfl, nextSt_some rfl _ _ (ho.sl hwl) (by simp), hE⟩
  have HST := Lib.hid hst
  clear hst hp
  go_wp2_with fail
  go_loopw [5, 6, 7, 8, 9] (fun o i v7 v8 v9 wr => ∃ (m at_ f c : Nat) (a : Option Addr) (yss : List (List Int)), i = .int .i64 at_ ∧ at_ ≤ n1 ∧ m ≤ at_ ∧ o = .slice a m c ∧ OwL .i64 22 w.heap.size wr a m c yss ∧ Ext w wr ∧ xs.length ≤ f + at_ ∧
     lframes xs.length xs = (yss ++ (lframes f (xs.drop at_)).1, at_ + (lframes f (xs.drop at_)).2) ∧ NextSt wr a (lnext (xs.drop at_)) v7 v8 v9) (fun _ i _ _ v9 _ => 2 * (n1 - (intOf i).toNat) + (match v9 with | .bool true => 1 | _ => 0))
  case atStart => exact ⟨0, 0, xs.length, 0, none, [], rfl, by omega, by omega, rfl, OwL.nil _ _ _ _, hE1, by omega, by simp, HST.out⟩
  case round =>
    obtain ⟨m, at_, f, c, a, yss, rfl, hat, hma, rfl, ho, hE, hf, hfr, a2, n2, c2, k2, b2, rfl, rfl, rfl, hb0, hb1⟩ := hrel
    have HF := Lib.hid hf
    have HR := Lib.hid hfr
    clear hf hfr
    rcases hr : lnext (xs.drop at_) with _ | ⟨l, n⟩
    · obtain rfl := hb0 hr
      have HN := Lib.hid hr
      clear hr hb0 hb1
      go_wp2
      go_ret3
      have hfin : lframes xs.length xs = (yss, at_) := by rw [HR.out, lframes_step (by rw [List.length_drop]; have := HF.out; omega) HN.out]; simp
      rw [hfin]
      have hl := ho.1
      subst hl
      exact ⟨a, c, rfl, ho, hE⟩
    · obtain ⟨rfl, rfl, rfl, hsl, hne⟩ := hb1 l n hr
      have HN := Lib.hid hr
      have HNE := Lib.hid hne
      have hbd := lnext_bd hr
      rw [List.length_drop, e1.out] at hbd
      clear hr hb0 hb1 hne
      have hsz := hE.sz
      have hat2 : at_ + n ≤ n1 := by omega
      have hslc := run_from (P := Try.prog) (T := 23) (by kernel_rfl) (fun _ => by kernel_rfl) a1 n1 c1 (at_ + n) hat2
      simp only [Int.natCast_add] at hslc
      go_wp2_with (at_builtin; refine appL el_l rfl _ _ rfl _ w.heap.size _ _ _ _ rfl ho _ _ _ l hsl HNE.out rfl (by omega) (by unfold maxLen; omega) (by omega) ?_; intro g3 c3 w3 ho3 hB3)
      have hE3 : Ext w w3 := Below.trans hE hB3
      refine (first_any _ _ _ (xs.drop (at_ + n)) _ ((h1.ext hE3).from hat2) (by omega)).mono ?_
      intro e w4 hp
      obtain ⟨v7, v8, v9, rfl, hst, hE4⟩ : ∃ v7 v8 v9, e = .returned (.tuple #[v7, v8, v9]) ∧ NextSt w4 (some ⟨g3, 0, none⟩) (lnext (xs.drop (at_ + n))) v7 v8 v9 ∧ Ext w3 w4 := by
        rcases hr : lnext (xs.drop (at_ + n)) with _ | ⟨l', n'⟩
        · rw [hr] at hp
          obtain ⟨a, n, c, m, rfl, hE⟩ := hp
          exact ⟨_, _, _, rfl, nextSt_none rfl _ _ _ _, hE⟩
        · rw [hr] at hp
          obtain ⟨a, c, rfl, ho', hwl, hE⟩ := hp
          exact ⟨_, _, _, rfl, nextSt_some rfl _ _ (ho'.sl hwl) (ne_of_fresh ho3 ho'), hE⟩
      have HST := Lib.hid hst
      clear hst hp
      go_wp2_with fail
      go_roundw
      case rel =>
        obtain ⟨f', hf', hfe⟩ := lframes_more (f := f) (by rw [List.length_drop]; have := HF.out; omega) HN.out
        refine ⟨m + 1, at_ + n, f', c3, _, yss ++ [l], by go_num, by omega, by omega, rfl, ho3.kept hE4, hE3.trans hE4, by have := HF.out; omega, ?_, HST.out⟩
        rw [HR.out, hfe, List.drop_drop]
        simp [Nat.add_assoc]
      case measure =>
        obtain ⟨_, _, _, _, b3, _, _, rfl, _⟩ := HST.out
        simp only [intOf]
        rcases b3 with _ | _ <;> simp <;> omega

def tot (xss : List (List Int)) : Nat := xss.length + (xss.map List.length).sum

theorem tot_take_succ {xs : List (List Int)} {k : Nat} (h : k < xs.length) : ((xs.take (k+1)).map List.length).sum = ((xs.take k).map List.length).sum + (nthL xs k).length := by
  rw [take_nthL_succ h]; simp

theorem sum_take_le (xs : List (List Int)) (k : Nat) : ((xs.take k).map List.length).sum ≤ (xs.map List.length).sum := by
  have h : (xs.map List.length).sum = ((xs.map List.length).take k).sum + ((xs.map List.length).drop k).sum := by rw [← List.sum_append, List.take_append_drop]
  rw [List.map_take]; omega

set_option maxHeartbeats 400000 in
theorem small_any (a1 : Option Addr) (n1 c1 : Nat) (xs : List (List Int)) (w : World) (h1 : Sll .i64 w a1 n1 c1 xs) (ht : tot xs ≤ 1000000000) :
    Calls Try.prog 23 #[.slice a1 n1 c1] w fun e w' => e = .returned (.bool (decide (tot xs ≤ 200))) ∧ w = w' := by
  have b1 := h1.bd
  have e1 := Lib.hid h1.hlen
  have ht2 : n1 + (xs.map List.length).sum ≤ 1000000000 := by have := h1.hlen; unfold tot at ht; omega
  have HT : Hid (tot xs = n1 + (xs.map List.length).sum) := by unfold Hid tot; rw [h1.hlen]
  have hle := sum_take_le xs
  go_enter Try.func23, Try.ntmps23
  go_wp2
  go_loop [3, 10] (fun s i => ∃ k m : Nat, k ≤ n1 ∧ i = .int .i64 k ∧ s = .int .i64 m ∧ m = n1 + ((xs.take k).map List.length).sum) (fun _ i => n1 - (intOf i).toNat)
  case atStart => exact ⟨0, n1, by omega, rfl, rfl, by simp⟩
  case round =>
    obtain ⟨k, m, hk, rfl, rfl, hm⟩ := hrel
    have HM := Lib.hid hm
    have hmb : m ≤ 1000000000 := by have := hle k; omega
    clear hm
    by_cases hlt : k < n1
    · obtain ⟨x1, o1, rfl, hc1⟩ := h1.at (by omega)
      obtain ⟨p1, q1, r1, g1, s1⟩ := hc1 k hlt
      have hq : Hid ((nthL xs k).length = q1) := s1.hlen
      have hm2 : m + q1 ≤ 1000000000 := by
        have h2 := hle (k + 1)
        rw [tot_take_succ (by rw [e1.out]; exact hlt), hq.out] at h2
        have := HM.out; omega
      clear hc1 hle
      go_wp2
      go_round
      case rel => exact ⟨k + 1, m + q1, by omega, by go_num, by go_num, by rw [tot_take_succ (by rw [e1.out]; exact hlt), HM.out, hq.out]; omega⟩
      case measure => simp [intOf]; omega
    · clear hle
      go_wp2
      go_ret
      refine ⟨ret_bool ?_, rfl⟩
      have : m = tot xs := by rw [HM.out, HT.out, List.take_of_length_le (by have := e1.out; omega)]
      rw [← this]
      simp
      omega

end Go.Proofs.Ythjldbefjkbniaa
