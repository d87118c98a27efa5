
import Derived.Test.YtcpojkodidflcaaW6
import Derived.Test.YtcpojkodidflcaaLib4
import Derived.Lib.Zigzag
import Derived.Shelf.Abstract
namespace Go.Proofs.Ytcpojkodidflcaa
open Go.RowKit Go.Sort Go.Shelf
set_option linter.unusedSimpArgs false
set_option linter.unusedVariables false
set_option maxRecDepth 100000
attribute [local go_sem] Oper.semAt_some

set_option maxHeartbeats 400000 in
theorem digits_any (u : Int) (w : World) :
    Calls Try.prog 52 #[.int .u64 u] w fun e w' => e = .returned (.func (.func 53) #[] #[.pointer (some ⟨w.heap.size, 0, none⟩)]) ∧ w.alloc (.cells #[.int .u64 u] 22) = w' := by
  have hmf : ∀ (fn : Fn) (first cap : Array Value) (w : World), (Instr.makeFunc fn first cap).run Try.prog w = .ok (.func fn first cap) w := fun _ _ _ _ => rfl
  go_enter Try.func52, Try.ntmps52
  go_wp2
  go_ret
  exact ⟨rfl, rfl⟩

theorem bit7 {x : Int} (h : 0 ≤ x ∧ x ≤ 255) : bits .or .u8 x 128 = x % 128 + 128 := by
  obtain ⟨n, rfl⟩ : ∃ n : Nat, x = (n : Int) := ⟨x.toNat, by omega⟩
  have : n < 256 := by omega
  have key : ∀ n, n < 256 → bits .or .u8 ((n : Nat) : Int) 128 = ((n : Nat) : Int) % 128 + 128 := by decide
  exact key n this

theorem digits1_in (F : Fence) (n : Nat) (hF : F.fn 53) (hro : F.round = none) (hn : 1 ≤ n) (Bp U : Nat) (hU : U < 18446744073709551616) :
    SeqP F n Try.prog 53 #[.pointer (some ⟨Bp, 0, none⟩)] (Value.int .u8) Bp 22 (fun xs => xs = digs U) 10 (.int .u64 U) := by
  intro l J W hset hY h0 hb
  have hdl := (digs_len U).2 10 (by omega)
  have HDL := Lib.hid hdl
  clear hdl
  refine callsIn_of_wp Try.func53 rfl hF ?_ hro
  simp only [Try.ntmps53, List.size_toArray, List.length_cons, List.length_nil, Nat.reduceAdd, Nat.reduceSub, Array.replicate_succ, Array.replicate_zero, List.push_toArray, List.append_toArray, List.nil_append, List.cons_append]
  gi_wp2
  gi_loopw [] (fun wr => ∃ (u : Nat) (pre : List Int), u < 18446744073709551616 ∧ digs U = pre ++ digs u ∧ J pre wr ∧ Boxed wr Bp 22 (.int .u64 u)) (fun wr => match wr.cell? ⟨Bp, 0, none⟩ with | some (.int _ x) => x.toNat | _ => 0)
  case atStart => exact ⟨U, [], hU, rfl, h0, hb⟩
  case round =>
    obtain ⟨u, pre, hu, hd, hJ, hbx⟩ := hrel
    have hc := hbx.cell
    have hf := hbx.frozen
    have HD := Lib.hid hd
    clear hd
    by_cases hlt : u < 128
    · have hlen : pre.length < 10 := by
        have h1 := HDL.out; rw [HD.out, List.length_append] at h1; have h2 := (digs_len u).1; simp at h1; omega
      obtain ⟨fn, tmps, assign, body, hy, hR⟩ := hY pre (u : Int) wr _ hJ hbx hlen
      have h256 : (u : Int) % 256 = u := by omega
      gi_wp2
      refine hR.mono ?_
      rintro e W' ⟨rfl, hJ', hb'⟩
      gi_wp2
      go_end0
      exact ⟨⟨_, rfl⟩, _, by rw [HD.out, digs_small hlt], hJ'⟩
    · have hlen : pre.length < 10 := by
        have h1 := HDL.out; rw [HD.out, List.length_append] at h1; have h2 := (digs_len u).1; simp at h1; omega
      obtain ⟨fn, tmps, assign, body, hy, hR⟩ := hY pre (bits .or .u8 ((u : Int) % 256) 128) wr _ hJ hbx hlen
      gi_wp2
      refine hR.mono ?_
      rintro e W' ⟨rfl, hJ', hb'⟩
      have hc' := hb'.cell
      have hf' := hb'.frozen
      have hbs := hb'.set (.int .u64 ((u : Int) / 128))
      gi_wp2
      go_roundw
      case rel =>
        refine ⟨u / 128, _, by omega, ?_, hset _ _ _ _ hJ' hb', hbs⟩
        rw [HD.out, digs_big hlt, bit7 (by omega), List.append_assoc]
        congr 2
        omega
      case measure => 
        rw [hc, hbs.cell]
        simp; omega

theorem zig {n : Int} (h : -9223372036854775808 ≤ n ∧ n ≤ 9223372036854775807) :
    bits .xor .u64 (IntKind.u64.wrap (IntKind.u64.wrap n * 2)) (IntKind.u64.wrap (n / 9223372036854775808)) = (num n : Int) := by
  by_cases hn : n < 0
  · have e1 : IntKind.u64.wrap n = n + 18446744073709551616 := by rw [IntKind.wrap_u64]; omega
    have e2 : IntKind.u64.wrap ((n + 18446744073709551616) * 2) = ((2 * n + 18446744073709551616).toNat : Int) := by rw [IntKind.wrap_u64]; omega
    have e3 : IntKind.u64.wrap (n / 9223372036854775808) = ((2 ^ 64 - 1 : Nat) : Int) := by rw [IntKind.wrap_u64]; omega
    rw [e1, e2, e3, u64_xor_nat _ _ (by omega) (by omega), Nat.xor_comm, Lib.xor_ones64 _ (by omega)]
    have := num_neg hn
    omega
  · have e1 : IntKind.u64.wrap n = n := by rw [IntKind.wrap_u64]; omega
    have e2 : IntKind.u64.wrap (n * 2) = ((2 * n).toNat : Int) := by rw [IntKind.wrap_u64]; omega
    have e3 : IntKind.u64.wrap (n / 9223372036854775808) = ((0 : Nat) : Int) := by rw [IntKind.wrap_u64]; omega
    rw [e1, e2, e3, u64_xor_nat _ _ (by omega) (by omega), Nat.xor_zero]
    have := num_pos hn
    omega

theorem owi_kept_other {k : IntKind} {E : TypeId} {base : Nat} {W W' : World} {row : Option Nat} {a : Option Addr} {n c : Nat} {xs : List Int} (h : OwI k E base W a n c xs) (hg : W.grownBy W' row)
    (hne : ∀ r, row = some r → ∃ o : Obj, W.heap[r]? = some o ∧ o.isCells = false) : OwI k E base W' a n c xs := by
  refine World.ownsRow.kept h hg ?_
  rcases h.2 with ⟨hv, _⟩ | ⟨g, cap, cur, hv, _, hb, _⟩
  · left; rw [hv]; rfl
  · right
    rw [hv]
    intro e
    obtain ⟨o, ho, hn⟩ := hne g e.symm
    rw [hb] at ho; cases ho; cases hn

/-- The byte behind 'put'. -/
theorem holds_put (E T : TypeId) (hTE : T ≠ E) (base B0 B : Nat) (w0 : World) (n1 : Nat) (xs : List Int) (hB : base ≤ B) :
    OwnFrom B (fun (pre : List Int) W => ∃ a c, Boxed W B0 T (.slice a (n1 + pre.length) c) ∧ OwI .u8 E base W a (n1 + pre.length) c (xs ++ pre) ∧ Below base w0 W ∧ base ≤ W.heap.size) := by
  rintro pre W W' row ⟨a, c, h1, h2, h3, hb⟩ hg hr
  have hne : ∀ r, row = some r → ∃ o : Obj, W.heap[r]? = some o ∧ o.isCells = false := fun r e => (hr r e).2
  refine ⟨a, c, h1.kept hg ?_, ?_, h3.grown hg hb ?_, Nat.le_trans hb hg.size⟩
  · intro e
    obtain ⟨o, ho, hn⟩ := hne B0 e.symm
    have h1' : W.heap[B0]? = some (.cells #[_] T (0, 0)) := h1
    rw [ho] at h1'; cases h1'; cases hn
  · exact owi_kept_other h2 hg hne
  · intro k e; have := (hr k e).1; omega

set_option maxHeartbeats 800000 in
theorem put_any (base : Nat) (a1 : Option Addr) (n1 c1 : Nat) (xs : List Int) (n : Int) (w : World) (hn : -9223372036854775808 ≤ n ∧ n ≤ 9223372036854775807)
    (h1 : OwI .u8 5 base w a1 n1 c1 xs) (hb : base ≤ w.heap.size) (hsz : n1 ≤ 1000000) :
    Calls Try.prog 47 #[.slice a1 n1 c1, .int .i64 n] w fun e w' => ∃ g c, e = .returned (.slice (some ⟨g, 0, none⟩) (n1 + (digs (num n)).length) c) ∧
      OwI .u8 5 base w' (some ⟨g, 0, none⟩) (n1 + (digs (num n)).length) c (xs ++ digs (num n)) ∧ Below base w w' := by
  refine (callsIn_wide (n := 3)).1 ?_
  refine callsIn_of_wp_marks Try.func47 rfl trivial ?_ rfl
  simp only [Try.ntmps47, List.size_toArray, List.length_cons, List.length_nil, Nat.reduceAdd, Nat.reduceSub, Array.replicate_succ, Array.replicate_zero, List.push_toArray, List.append_toArray, List.nil_append, List.cons_append]
  have hz := zig hn
  have hnl := num_lt hn
  have hl10 := Lib.hid (digs_num_len hn)
  generalize num n = U at *
  gi_wp2_with (refine ⟨trivial, ?_⟩; gi_at_call 52; refine (callsIn_wide.2 (digits_any _ _)).mono ?_; rintro e w1 ⟨rfl, rfl⟩)
  obtain ⟨i0, hi, hz0, hz1, hz2⟩ := info_parts el_u8.2
  have hbw0 : Boxed (w.alloc (.cells #[.slice a1 n1 c1] 31)) w.heap.size 31 (.slice a1 n1 c1) := Boxed.new w _ _
  have hbp0 : Boxed ((w.alloc (.cells #[.slice a1 n1 c1] 31)).alloc (.cells #[.int .u64 U] 22)) (w.heap.size + 1) 22 (.int .u64 U) := by
    have := Boxed.new (w.alloc (.cells #[.slice a1 n1 c1] 31)) 22 (.int .u64 U)
    simpa using this
  refine wpIn_rangeP rfl (by omega) (gf := 53) (lb := #[.pointer (some ⟨w.heap.size + 1, 0, none⟩)]) rfl trivial (enters_of Try.func53 (by kernel_rfl) rfl)
    (digits1_in Fence.wide (3 - 1) trivial rfl (by omega) (w.heap.size + 1) U hnl) rfl
    (fun (pre : List Int) W => ∃ a c, Boxed W w.heap.size 31 (.slice a (n1 + pre.length) c) ∧ OwI .u8 5 base W a (n1 + pre.length) c (xs ++ pre) ∧ Below base w W ∧ base ≤ W.heap.size)
    (holds_put 5 31 (by decide) base w.heap.size _ w n1 xs (by simp; omega)) ?_ ⟨a1, c1, hbw0.alloc _, ?_, ?_, by simp; omega⟩ hbp0
    (fun x => { tmps := #[.slice a1 n1 c1, .int .i64 n, .pointer (some ⟨w.heap.size, 0, none⟩), undef, .slice none 0 0, .int .u8 x, .int .i64 n, .int .u64 (IntKind.u64.wrap n), .int .u64 (IntKind.u64.wrap (IntKind.u64.wrap n * 2)), .int .i64 n,
      .int .i64 (n / 9223372036854775808), .int .u64 (IntKind.u64.wrap (n / 9223372036854775808)), .int .u64 U, .func (.func 53) #[] #[.pointer (some ⟨w.heap.size + 1, 0, none⟩)], .int .u8 x, undef, undef, undef, undef, undef], defers := [] })
    ?assign ?body ?done
  case assign =>
    intro l x W K hK
    gi_wp2
    exact hK
  case body =>
    rintro l pre x v W ⟨a, c, hv, hrow, hB, hbs⟩ hbp hlen
    have hc := hv.cell
    have hf := hv.frozen
    gi_wp2_with (gi_at_builtin; refine wpListIn_append_own _ rfl _ _ 31 rfl base 5 i0 (.int .u8 0) 1 1 el_u8.1 hi hz0 hz1 hz2 rfl (by decide) _ _ _ rfl (World.ownsRow.alloc hrow _) ⟨W.heap.size, 0, none⟩ 1 1 [.int .u8 x] rfl rfl (cell_one_new _ _ _) (by simp [Value.oneCell']) (by unfold maxLen; omega) (by omega) (by simp; omega) ?_; intro v' w1 hown' hgrow _; obtain ⟨g', cap', rfl⟩ := ownsRow_succ hown'; obtain ⟨hv1, hv2, hr2, hk2, hb2⟩ := hv.appended (by decide) hrow hbs (by omega) hown' hgrow; have hc1 := hv1.cell; have hf1 := hv1.frozen)
    have hbp1 : Boxed w1 (w.heap.size + 1) 22 v := (hbp.alloc _).kept hgrow (hbp.not_row (by decide) hrow)
    have el : (pre ++ [x]).length = pre.length + 1 := by simp
    refine ⟨hk2, ⟨some ⟨g', 0, none⟩, cap', ?_, ?_, hB.trans hb2, Nat.le_trans hbs hb2.size⟩, hbp1.other (by omega) _⟩
    · rw [el]; exact hv2
    · unfold OwI; rw [el, ← List.append_assoc, List.map_append]; exact hr2
  case done =>
    rintro D ys W hD rfl ⟨a, c, hv, hrow, hB, hbs⟩ hK
    have hc := hv.cell
    gi_wp2
    refine ⟨by simp, .inl ⟨_, _, rfl, run_takeDeferred hK, ?_⟩⟩
    obtain ⟨g, c', hs⟩ : ∃ g c', Value.slice a (n1 + (digs U).length) c = .slice (some ⟨g, 0, none⟩) (n1 + (digs U).length) c' := by
      obtain ⟨m, hm⟩ : ∃ m, n1 + (digs U).length = m + 1 := ⟨n1 + (digs U).length - 1, by have := hl10.out; omega⟩
      unfold OwI at hrow
      rw [hm] at hrow ⊢
      exact ownsRow_succ hrow
    simp only [Value.slice.injEq] at hs
    obtain ⟨rfl, _, rfl⟩ := hs
    exact ⟨_, results_tmp rfl _ _ _, g, c, rfl, ownsRow_putObj hrow _ hK rfl, hB.trans (belowK_b (w := w) (by omega) W D _ _ (by simp at hD; omega) hK rfl rfl)⟩
  · rintro pre A v v' ⟨a, c, hv, hrow, hB, hbs⟩ hbp
    refine ⟨a, c, hv.other (by omega) _, ?_, hB.setCell (p := ⟨_, 0, none⟩) (by simp; omega) _, by simp [World.setCell]; omega⟩
    exact World.ownsRow.kept hrow (grownBy_setCell' A _ _) (.inr (hbp.not_row (by decide) hrow).symm)
  · simp only [List.length_nil, Nat.add_zero, List.append_nil]
    exact World.ownsRow.alloc (World.ownsRow.alloc h1 _) _
  · exact ((Below.refl base w).alloc hb _).alloc (by simp; omega) _

end Go.Proofs.Ytcpojkodidflcaa
