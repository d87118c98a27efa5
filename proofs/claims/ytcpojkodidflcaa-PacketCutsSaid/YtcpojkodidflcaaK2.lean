/-
  Valid requests and replies; the packets of valid ones.
-/
import Derived.Test.YtcpojkodidflcaaK1
namespace Go.Proofs.Ytcpojkodidflcaa
open Go.RowKit Go.Sort Go.Shelf
set_option linter.unusedSimpArgs false
set_option linter.unusedVariables false
set_option maxRecDepth 100000

theorem rrequest_any (h a r n : Int) (w : World) : Calls Try.prog 20 #[.agg #[.int .i64 h, .int .i64 a, .int .i64 r, .int .u64 n]] w fun e w' => e = .returned (.bool (reqB h a r)) ∧ Ext w w' := by
  unfold reqB
  go_enter Try.func20, Try.ntmps20
  go_wp2_with (refine (in_any _ _ _ _).mono ?_; rintro e w' ⟨rfl, rfl⟩)
  all_goals
    go_ret
    exact ⟨ret_bool (by simp [*]), (Ext.refl w).alloc _⟩

/-- A well-formed interval. -/
def validB (lo hi : Int) : Bool := decide (0 ≤ lo ∧ lo ≤ hi ∧ hi ≤ 3000000000000000)
theorem validB_iff {lo hi : Int} : validB lo hi = true ↔ 0 ≤ lo ∧ lo ≤ hi ∧ hi ≤ 3000000000000000 := by unfold validB; exact decide_eq_true_iff

theorem valid_any (lo hi : Int) (w : World) : Calls Try.prog 46 #[.agg #[.int .i64 lo, .int .i64 hi]] w fun e w' => e = .returned (.bool (validB lo hi)) ∧ Ext w w' := by
  unfold validB
  go_enter Try.func46, Try.ntmps46
  go_wp2
  all_goals
    go_ret
    refine ⟨ret_bool ?_, (Ext.refl w).alloc _⟩
    simp_all <;> omega

theorem rvalid_any (lo hi : Int) (w : World) : Calls Try.prog 37 #[.agg #[.int .i64 lo, .int .i64 hi]] w fun e w' => e = .returned (.bool (validB lo hi)) ∧ Ext w w' := by
  unfold validB
  go_enter Try.func37, Try.ntmps37
  go_wp2
  all_goals
    go_ret
    refine ⟨ret_bool ?_, (Ext.refl w).alloc _⟩
    simp_all <;> omega

/-- A valid reply. -/
def repB (a h r lo hi k t c s : Int) : Bool := reqB h a r && (validB lo hi && (inB k 0 1000 && (inB t 0 1000 && (inB c 0 1073741788 && inB s 0 1073741788))))

theorem reply_any (a h r n lo hi k t c s : Int) (w : World) : Calls Try.prog 32 #[.agg #[.int .i64 a, .int .i64 h, .int .i64 r, .int .u64 n, .int .i64 lo, .int .i64 hi, .int .i64 k, .int .i64 t, .int .i64 c, .int .i64 s]] w fun e w' => e = .returned (.bool (repB a h r lo hi k t c s)) ∧ Ext w w' := by
  unfold repB
  go_enter Try.func32, Try.ntmps32
  go_wp2_with (first | (go_at_call 22; refine (request_any _ _ _ _ _).mono ?_; rintro e w1 ⟨rfl, hE1⟩; obtain ⟨hc1, hf1⟩ := hE1.rules; have hz1 := hE1.sz1) | (go_at_call 46; refine (valid_any _ _ _).mono ?_; rintro e w2 ⟨rfl, hE2⟩; obtain ⟨hc2, hf2⟩ := hE2.rules; have hz2 := hE2.sz) | (go_at_call 38; refine (within_any _ _ _ _).mono ?_; rintro e w' ⟨rfl, rfl⟩))
  all_goals
    go_ret
    refine ⟨ret_bool (by simp [*]), ?_⟩
    first
      | exact ((Ext.refl w).alloc _).trans (hE1.trans hE2)
      | exact ((Ext.refl w).alloc _).trans hE1

theorem rreply_any (a h r n lo hi k t c s : Int) (w : World) : Calls Try.prog 21 #[.agg #[.int .i64 a, .int .i64 h, .int .i64 r, .int .u64 n, .int .i64 lo, .int .i64 hi, .int .i64 k, .int .i64 t, .int .i64 c, .int .i64 s]] w fun e w' => e = .returned (.bool (repB a h r lo hi k t c s)) ∧ Ext w w' := by
  unfold repB
  go_enter Try.func21, Try.ntmps21
  go_wp2_with (first | (go_at_call 20; refine (rrequest_any _ _ _ _ _).mono ?_; rintro e w1 ⟨rfl, hE1⟩; obtain ⟨hc1, hf1⟩ := hE1.rules; have hz1 := hE1.sz1) | (go_at_call 37; refine (rvalid_any _ _ _).mono ?_; rintro e w2 ⟨rfl, hE2⟩; obtain ⟨hc2, hf2⟩ := hE2.rules; have hz2 := hE2.sz) | (go_at_call 36; refine (in_any _ _ _ _).mono ?_; rintro e w' ⟨rfl, rfl⟩))
  all_goals
    go_ret
    refine ⟨ret_bool (by simp [*]), ?_⟩
    first
      | exact ((Ext.refl w).alloc _).trans (hE1.trans hE2)
      | exact ((Ext.refl w).alloc _).trans hE1

end Go.Proofs.Ytcpojkodidflcaa
