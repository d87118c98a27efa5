/- PacketFields: for every input the law returns true and leaves what it was given. No conditions. -/
import Derived.Test.YtcpojkodidflcaaRows
import Derived.WalkKit
import Derived.ProofKit
import Derived.OpenShut
import Derived.ShutString
import Derived.ChangeOld
import Derived.Below
import Derived.Test.YtcpojkodidflcaaK17
import Derived.Test.YtcpojkodidflcaaRow
namespace Go.Proofs.Ytcpojkodidflcaa.packetFields
open Go.ChangeShapes Go.WideShapes Go.ChangeAt Go.RowKit
set_option linter.unusedVariables false
set_option linter.unusedSimpArgs false

theorem own : ownKnob Try.prog.godebug = none := by kernel_rfl
theorem laidOut : laidOutB Try.prog = true := by kernel_rfl

def IsRow (k : IntKind) (w : World) (a : Option Addr) (len cap : Nat) (zs : List Int) : Prop :=
  (a = none ∧ len = 0 ∧ cap = 0 ∧ zs = []) ∨
  ∃ x, a = some x ∧ len ≤ cap ∧ cap ≤ maxLen ∧ zs.length = cap ∧ (∀ i, i < zs.length → w.cell? (x.add i) = some (.int k (zs.getD i 0))) ∧ ∀ n ∈ zs, (Lit.int k n).wf = true

set_option maxRecDepth 100000 in
theorem lifted (os : Os) (started : os.Started) (H : Type) (enc : TypeId × Value → H) :
    ReturnsInHanded {} Try.checked os 8 .any (Rows.packetFieldsSpec.pre6 enc Try.prog Try.f8 Rows.packetFieldsRow.domain false) (Rows.packetFieldsSpec.post enc Try.prog Try.f8 false true false false) := by
  refine returnsInHanded_of_change (C := Try.checked) own started (by kernel_rfl) Try.func8
    (ChangeSpec.witness6 (enc := enc) (C := Try.checked) false ⟨#[], #[.agg #[.int .i64 0, .int .i64 0, .int .i64 0, .int .u64 0], .agg #[.int .i64 0, .int .i64 0, .int .i64 0, .int .u64 0], .agg #[.int .i64 0, .int .i64 0, .int .i64 0, .int .u64 0, .int .i64 0, .int .i64 0, .int .i64 0, .int .i64 0, .int .i64 0, .int .i64 0], .agg #[.int .i64 0, .int .i64 0, .int .i64 0, .int .u64 0, .int .i64 0, .int .i64 0, .int .i64 0, .int .i64 0, .int .i64 0, .int .i64 0]], []⟩ 8 (by kernel_rfl) (by kernel_rfl) (by kernel_rfl) (by kernel_rfl)) ?_
  intro W base args ds gs before hval0 hW hcnd _
  have hval : ∀ (j : Nat) t v, Try.f8.params[j]? = some t → args[j]? = some v → Value.okWide Try.prog W .any base t v := hval0
  have hW' := hW
  obtain ⟨p, q, hA0, hV, rfl, hfz, hnd⟩ := hW
  have hA : DataW.TrodAll enc Try.prog W 0 (fun _ => true) true Try.f8.params.toList args.toList ds p := hA0
  rw [Try.params8] at hA hval
  obtain ⟨v0, vs0, d0, ds0, p0, q0, hargs, rfl, rfl, h0, r0⟩ := trodAll_cons hA
  obtain ⟨v1, vs1, d1, ds1, p1, q1, rfl, rfl, rfl, h1, r1⟩ := trodAll_cons r0
  obtain ⟨v2, vs2, d2, ds2, p2, q2, rfl, rfl, rfl, h2, r2⟩ := trodAll_cons r1
  obtain ⟨v3, vs3, d3, ds3, p3, q3, rfl, rfl, rfl, h3, r3⟩ := trodAll_cons r2
  obtain ⟨rfl, rfl, rfl⟩ := trodAll_nil r3
  obtain rfl : args = #[v0, v1, v2, v3] := by cases args; simp_all
  obtain ⟨rfl, rfl⟩ := trodVars_none hV
  have k0 := h0
  have lt0 : ∀ x ∈ p0, x.block < W.heap.size := by obtain ⟨m, hm⟩ := k0; exact DataW.trod_lt m _ _ _ hm
  obtain ⟨cs0, rfl, o0, rfl⟩ := open_flat (n := 3) (ks := [.int .i64, .int .i64, .int .i64, .int .u64]) (by kernel_rfl) (by kernel_rfl) (hval 0 24 v0 rfl rfl) h0
  obtain ⟨x0_0, t0_0, rfl, s0_0, o0⟩ := o0.int
  obtain ⟨x0_1, t0_1, rfl, s0_1, o0⟩ := o0.int
  obtain ⟨x0_2, t0_2, rfl, s0_2, o0⟩ := o0.int
  obtain ⟨x0_3, t0_3, rfl, s0_3, o0⟩ := o0.int
  obtain rfl := o0.nil
  have k1 := h1
  have lt1 : ∀ x ∈ p1, x.block < W.heap.size := by obtain ⟨m, hm⟩ := k1; exact DataW.trod_lt m _ _ _ hm
  obtain ⟨cs1, rfl, o1, rfl⟩ := open_flat (n := 3) (ks := [.int .i64, .int .i64, .int .i64, .int .u64]) (by kernel_rfl) (by kernel_rfl) (hval 1 24 v1 rfl rfl) h1
  obtain ⟨x1_0, t1_0, rfl, s1_0, o1⟩ := o1.int
  obtain ⟨x1_1, t1_1, rfl, s1_1, o1⟩ := o1.int
  obtain ⟨x1_2, t1_2, rfl, s1_2, o1⟩ := o1.int
  obtain ⟨x1_3, t1_3, rfl, s1_3, o1⟩ := o1.int
  obtain rfl := o1.nil
  have k2 := h2
  have lt2 : ∀ x ∈ p2, x.block < W.heap.size := by obtain ⟨m, hm⟩ := k2; exact DataW.trod_lt m _ _ _ hm
  obtain ⟨cs2, rfl, o2, rfl⟩ := open_flat (n := 4) (ks := [.int .i64, .int .i64, .int .i64, .int .u64, .int .i64, .int .i64, .int .i64, .int .i64, .int .i64, .int .i64]) (by kernel_rfl) (by kernel_rfl) (hval 2 30 v2 rfl rfl) h2
  obtain ⟨x2_0, t2_0, rfl, s2_0, o2⟩ := o2.int
  obtain ⟨x2_1, t2_1, rfl, s2_1, o2⟩ := o2.int
  obtain ⟨x2_2, t2_2, rfl, s2_2, o2⟩ := o2.int
  obtain ⟨x2_3, t2_3, rfl, s2_3, o2⟩ := o2.int
  obtain ⟨x2_4, t2_4, rfl, s2_4, o2⟩ := o2.int
  obtain ⟨x2_5, t2_5, rfl, s2_5, o2⟩ := o2.int
  obtain ⟨x2_6, t2_6, rfl, s2_6, o2⟩ := o2.int
  obtain ⟨x2_7, t2_7, rfl, s2_7, o2⟩ := o2.int
  obtain ⟨x2_8, t2_8, rfl, s2_8, o2⟩ := o2.int
  obtain ⟨x2_9, t2_9, rfl, s2_9, o2⟩ := o2.int
  obtain rfl := o2.nil
  have k3 := h3
  have lt3 : ∀ x ∈ p3, x.block < W.heap.size := by obtain ⟨m, hm⟩ := k3; exact DataW.trod_lt m _ _ _ hm
  obtain ⟨cs3, rfl, o3, rfl⟩ := open_flat (n := 4) (ks := [.int .i64, .int .i64, .int .i64, .int .u64, .int .i64, .int .i64, .int .i64, .int .i64, .int .i64, .int .i64]) (by kernel_rfl) (by kernel_rfl) (hval 3 30 v3 rfl rfl) h3
  obtain ⟨x3_0, t3_0, rfl, s3_0, o3⟩ := o3.int
  obtain ⟨x3_1, t3_1, rfl, s3_1, o3⟩ := o3.int
  obtain ⟨x3_2, t3_2, rfl, s3_2, o3⟩ := o3.int
  obtain ⟨x3_3, t3_3, rfl, s3_3, o3⟩ := o3.int
  obtain ⟨x3_4, t3_4, rfl, s3_4, o3⟩ := o3.int
  obtain ⟨x3_5, t3_5, rfl, s3_5, o3⟩ := o3.int
  obtain ⟨x3_6, t3_6, rfl, s3_6, o3⟩ := o3.int
  obtain ⟨x3_7, t3_7, rfl, s3_7, o3⟩ := o3.int
  obtain ⟨x3_8, t3_8, rfl, s3_8, o3⟩ := o3.int
  obtain ⟨x3_9, t3_9, rfl, s3_9, o3⟩ := o3.int
  obtain rfl := o3.nil
  clear hA0 hval0
  refine (fields_any _ _ _ _ _ _ _ _ _ _ _ _ _ _ _ _ _ _ _ _ _ _ _ _ _ _ _ _ W ⟨s0_0, s0_1, s0_2, s0_3⟩ ⟨s1_0, s1_1, s1_2, s1_3⟩ ⟨⟨s2_1, s2_0, s2_2, s2_3⟩, s2_4, s2_5, s2_6, s2_7, s2_8, s2_9⟩ ⟨⟨s3_1, s3_0, s3_2, s3_3⟩, s3_4, s3_5, s3_6, s3_7, s3_8, s3_9⟩).mono fun e W' ⟨he, bel⟩ => ?_
  subst he
  exact ⟨_, rfl, _, _, _, [], _, [], hW', trodAll_mk1 (shut_bool Try.underlying4 _), (trodAll_cons_mk (Below.trod laidOut (by kernel_rfl) (of_decide_eq_true (by kernel_rfl)) k0 bel lt0) (trodAll_cons_mk (Below.trod laidOut (by kernel_rfl) (of_decide_eq_true (by kernel_rfl)) k1 bel lt1) (trodAll_cons_mk (Below.trod laidOut (by kernel_rfl) (of_decide_eq_true (by kernel_rfl)) k2 bel lt2) (trodAll_cons_mk (Below.trod laidOut (by kernel_rfl) (of_decide_eq_true (by kernel_rfl)) k3 bel lt3) trodAll_mk0)))), rfl, Below.frame bel _, fun h => by cases h⟩

theorem over : Rows.packetFieldsRow.holds Try.pinned (OpenSpec.ofChange Rows.packetFieldsSpec) :=
  OpenClaim.holds_of_wide 8 Try.f8 rfl rfl rfl rfl rfl rfl rfl ⟨rfl, rfl, rfl, rfl, rfl⟩ rfl rfl rfl rfl rfl (by kernel_rfl) Try.func8 (by kernel_rfl)
    (of_decide_eq_true (by kernel_rfl)) (by unfold Func.isWrapper; first | (rw [if_pos (by decide +kernel)]; kernel_rfl) | (rw [if_neg (by decide +kernel)]; exact ⟨rfl, rfl⟩))
    (fun os started H enc _ => lifted os started H enc)

theorem proved : Rows.PacketFieldsSaid := over
end Go.Proofs.Ytcpojkodidflcaa.packetFields
