
import Derived.Test.YtcpojkodidflcaaW9
namespace Go.Proofs.Ytcpojkodidflcaa
open Go.RowKit Go.Sort Go.Shelf
set_option linter.unusedSimpArgs false
set_option linter.unusedVariables false
set_option maxRecDepth 100000

/-- The two named results of Get have been laid by the closure. -/
def Caught (base L E : Nat) (w w' : World) : Prop := w'.cell? ⟨L, 0, none⟩ = some (.slice none 0 0) ∧ w'.cell? ⟨E, 0, none⟩ = some (.int .i64 7) ∧ Below base w w'

set_option maxHeartbeats 800000 in
theorem catch_panic (base L E : Nat) (v1 v2 : Value) (w : World) (hL : w.cell? ⟨L, 0, none⟩ = some v1) (hE : w.cell? ⟨E, 0, none⟩ = some v2) (fL : w.frozen? ⟨L, 0, none⟩ = false) (fE : w.frozen? ⟨E, 0, none⟩ = false) (hne : L ≠ E) (hb : base ≤ L) (hb2 : base ≤ E) :
    CallsD Try.prog 49 #[.pointer (some ⟨L, 0, none⟩), .pointer (some ⟨E, 0, none⟩)] (.panicking formPanic) w fun e u' w' =>
      e = .returned (.tuple #[]) ∧ u' = .panicking [{ v := .iface 33 (.int .i64 7), recovered := true }] ∧ Caught base L E w w' := by
  have hta : ∀ w, (Instr.typeAssert (.iface 33 (.int .i64 7)) 20 33 false).run Try.prog w = .ok (.int .i64 7) w := fun _ => by kernel_rfl
  refine callsD_of_wpS Try.func49 rfl fun c₀ cs hu => ?_
  apply wpS_seq
  apply wpS_region
  simp [wpOpsS, go_sem, recoverD, hu, Try.ntmps49, Exit.thenS, formPanic]
  apply wpS_seq
  apply wpS_region
  simp [wpOpsS, go_sem, Exit.thenS]
  refine wpS_cond (t := true) (by simp [Act.eval, Array.replicate]) ?_
  simp only [if_true]
  refine wpS_of_wp ?_
  simp only [List.size_toArray, List.length_cons, List.length_nil, Nat.reduceAdd, Nat.reduceSub, Array.replicate_succ, Array.replicate_zero, List.push_toArray, List.append_toArray, List.nil_append, List.cons_append, List.setIfInBounds_toArray, List.set_cons_zero, List.set_cons_succ]
  go_region
  refine ⟨rfl, _, rfl, _, results_none rfl _ _ _, rfl, rfl, ?_, ?_, ?_⟩
  · simp [go_sem, hne, hL, hE]
  · simp [go_sem, hne, hL, hE]
  · exact (((Below.refl base w).setCell (p := ⟨L, 0, none⟩) hb _).setCell (p := ⟨E, 0, none⟩) hb2 _).drew

set_option maxHeartbeats 800000 in
theorem catch_idle (L E : Nat) (w : World) :
    CallsD Try.prog 49 #[.pointer (some ⟨L, 0, none⟩), .pointer (some ⟨E, 0, none⟩)] .returning w fun e u' w' =>
      e = .returned (.tuple #[]) ∧ u' = .returning ∧ w = w' := by
  refine callsD_of_wpS Try.func49 rfl fun c₀ cs hu => ?_
  apply wpS_seq
  apply wpS_region
  simp [wpOpsS, go_sem, recoverD, hu, Try.ntmps49, Exit.thenS]
  apply wpS_seq
  apply wpS_region
  simp [wpOpsS, go_sem, Exit.thenS]
  refine wpS_cond (t := false) (by simp [Act.eval, Array.replicate]) ?_
  simp only [Bool.false_eq_true, if_false]
  refine wpS_of_wp (wp_skip ?_)
  cases c₀
  simp_all [bodyPostS, results, Try.results49]

end Go.Proofs.Ytcpojkodidflcaa
