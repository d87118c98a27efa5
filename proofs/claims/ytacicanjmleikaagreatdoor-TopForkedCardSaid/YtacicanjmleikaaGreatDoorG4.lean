/-
  Challenges and the reference's small functions, walked.
-/
import Derived.Test.YtacicanjmleikaaGreatDoorG3
import Derived.Test.YtacicanjmleikaaGreatDoorTB
namespace Go.Proofs.YtacicanjmleikaaGreatDoor
open Go.RowKit Go.Sort
set_option linter.unusedSimpArgs false
set_option linter.unusedVariables false
set_option maxRecDepth 100000

/-- The challenge of two integers and a message. -/
def chal (b p : Int) (ms : List Int) : Int := fnv (txt (b :: p :: ms)) % 1073741789
theorem chal_lt (b p : Int) (ms : List Int) : 0 ≤ chal b p ms ∧ chal b p ms < 1073741789 := by unfold chal; omega

theorem two_sl {w : World} {a b : Int} (ha : (Lit.int .i64 a).wf = true) (hb : (Lit.int .i64 b).wf = true) {ms : List Int} (hm : ∀ x ∈ ms, (Lit.int .i64 x).wf = true) : ∀ x ∈ [a, b] ++ ms, (Lit.int .i64 x).wf = true := by
  intro x hx
  simp only [List.cons_append, List.nil_append, List.mem_cons] at hx
  rcases hx with rfl | rfl | hx
  · exact ha
  · exact hb
  · exact hm x hx

theorem challenge_any (b p : Int) (hb : (Lit.int .i64 b).wf = true) (hp : (Lit.int .i64 p).wf = true) (a1 : Option Addr) (n1 c1 : Nat) (ms : List Int) (w : World) (h1 : Sl .i64 w a1 n1 c1 ms) (hn : n1 ≤ 500) (ht : TB w) :
    Calls Tryz.prog 65 #[.int .i64 b, .int .i64 p, .slice a1 n1 c1] w fun e w' => e = .returned (.int .i64 (chal b p ms)) ∧ Ext w w' := by
  have b1 := h1.bd
  have HT := Lib.hid ht
  clear ht
  have ho0 := OwI.lit .i64 3 (base := w.heap.size) w [b, p] (Nat.le_refl _) (by unfold maxLen; simp) #[.int .i64 b, .int .i64 p] rfl
  have hE0 : Ext w (w.alloc (.cells #[.int .i64 b, .int .i64 p] 3)) := (Ext.refl w).alloc _
  have k1 := h1.ext hE0
  simp only [List.length_cons, List.length_nil, Nat.zero_add, Nat.reduceAdd] at ho0
  unfold chal
  go_enter Tryz.func65, Tryz.ntmps65
  go_wp2_with (at_builtin; refine appA el_i64 rfl _ _ rfl _ w.heap.size _ _ _ _ rfl ho0 _ _ _ _ rfl k1 (by simp) (by unfold maxLen; omega) (by omega) ?_; intro a2 c2 w2 ho2 hB2; refine hold ?_)
  refine held ?_
  have hE2 : Ext w w2 := Below.trans hE0 hB2
  have hs2 := ho2.sl (two_sl (w := w) hb hp h1.wf)
  clear ho0 hE0 k1 ho2 hB2
  go_wp2_with fail
  refine (dints_any _ _ _ _ w2 hs2 (by omega) (TB.ext HT.out hE2)).mono ?_
  rintro e w3 ⟨rfl, hE3⟩
  have hr := fnv_rng (txt ([b, p] ++ ms))
  simp only [List.cons_append, List.nil_append] at hr ⊢
  generalize hF : fnv (txt (b :: p :: ms)) = F at *
  have HF := Lib.hid hF
  clear hF
  go_wp2_with fail
  go_ret
  exact ⟨ret_int (by rw [HF.out]), hE2.trans hE3⟩

theorem rsecret_any (n : Int) (hn : 0 ≤ n ∧ n ≤ 18446744073709551615) (w : World) : Calls Tryz.prog 10 #[.int .u64 n] w fun e w' => e = .returned (.int .i64 (1 + n % 1073741788)) ∧ w' = w := by
  go_enter Tryz.func10, Tryz.ntmps10
  go_wp2_with fail
  go_ret
  exact ⟨rfl, rfl⟩

theorem rpublic_any (x : Nat) (hx : x < 9223372036854775808) (w : World) : Calls Tryz.prog 13 #[.int .i64 x] w fun e w' => e = .returned (.int .i64 (pw 2147483579 4 x : Nat)) ∧ w' = w := by
  have hp := fun w => rpower_any 2147483579 4 x (by omega) (by omega) (by omega) (by omega) w
  generalize pw 2147483579 4 x = V at *
  go_enter Tryz.func13, Tryz.ntmps13
  go_wp2_with (go_at_call 37; refine (hp _).mono ?_; rintro e w1 ⟨rfl, rfl⟩)
  go_ret
  exact ⟨rfl, rfl⟩

theorem pw_lt {m a x : Nat} (hm : 0 < m) : pw m a x < m := by rw [pw_def]; exact Nat.mod_lt _ hm

end Go.Proofs.YtacicanjmleikaaGreatDoor
