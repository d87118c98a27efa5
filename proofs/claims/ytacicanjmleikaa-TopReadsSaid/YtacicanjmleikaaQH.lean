/-
  Clones of rows; equality of versions; versions.At. Written by wip/gen_qh.py.
-/
import Derived.Test.YtacicanjmleikaaQG
import Derived.Test.YtacicanjmleikaaRws
import Derived.Laws.StructEq
import Derived.Laws.Tables
import Derived.Laws.Cover2
namespace Go.Proofs.Ytacicanjmleikaa
open Go.RowKit Go.Sort Go.Shelf
set_option linter.unusedSimpArgs false
set_option linter.unusedVariables false
set_option maxRecDepth 100000

theorem el_vn : ElS Try.prog 33 47 (.agg #[.int .i64 0, .int .i64 0, .int .i64 0, .bool false]) (Cel.sz Vn) 32 := ⟨by kernel_rfl, by kernel_rfl, rfl, by decide⟩
theorem el_sn : ElS Try.prog 23 77 (.agg #[.int .i64 0, .int .i64 0]) (Cel.sz Sn) 16 := ⟨by kernel_rfl, by kernel_rfl, rfl, by decide⟩
theorem el_wr : ElS Try.prog 24 60 (.agg #[.int .i64 0, .int .i64 0, .bool false]) (Cel.sz Wr) 24 := ⟨by kernel_rfl, by kernel_rfl, rfl, by decide⟩
theorem el_tx : ElS Try.prog 34 26 (.agg #[.int .i64 0, .int .i64 0, .slice none 0 0, .slice none 0 0]) 4 64 := ⟨by kernel_rfl, by kernel_rfl, rfl, by decide⟩

theorem cloneV_any (a : Option Addr) (n c : Nat) (xs : List Vn) (w : World) (h1 : Rw w a n c xs) (hs : n ≤ 1000000) :
    Calls Try.prog 20 #[.slice a n c] w fun e w' => ∃ a' c', e = .returned (.slice a' n c') ∧ OwR 47 w.heap.size w' a' n c' xs ∧ Ext w w' := by
  have bd := h1.bd
  have hnil := fun (W : World) => Lib.run_eql_slice_nil (P := Try.prog) W 33 47 a n c 0 0 Try.underlying33
  rcases a with _ | ad
  · obtain rfl : n = 0 := by
      rcases Nat.eq_zero_or_pos n with h | h
      · exact h
      · obtain ⟨_, _, e, _⟩ := h1.at h; cases e
    obtain rfl := h1.isnil
    go_enter Try.func20, Try.ntmps20
    go_wp2_with fail
    go_ret
    exact ⟨none, 0, rfl, OwR.nil _ _ _, Ext.refl w⟩
  · have ho0 := OwR.litNil (α := Vn) (E := 47) (base := w.heap.size) w (Nat.le_refl _)
    have h2 := h1.ext ((Ext.refl w).alloc (.cells #[] 47))
    go_enter Try.func20, Try.ntmps20
    go_wp2_with (at_builtin; refine appRs el_vn rfl _ _ rfl _ w.heap.size _ _ _ _ rfl ho0 _ _ _ _ rfl h2 (by simp) (by unfold maxLen; omega) (by omega) ?_; intro a' c' w' ho hB; refine hold ?_)
    refine held ?_
    simp only [Nat.zero_add, List.nil_append] at ho ⊢
    go_wp2_with fail
    go_ret
    exact ⟨a', c', rfl, ho, Below.trans ((Ext.refl w).alloc _) hB⟩

theorem cloneSn_any (a : Option Addr) (n c : Nat) (xs : List Sn) (w : World) (h1 : Rw w a n c xs) (hs : n ≤ 1000000) :
    Calls Try.prog 47 #[.slice a n c] w fun e w' => ∃ a' c', e = .returned (.slice a' n c') ∧ OwR 77 w.heap.size w' a' n c' xs ∧ Ext w w' := by
  have bd := h1.bd
  have hnil := fun (W : World) => Lib.run_eql_slice_nil (P := Try.prog) W 23 77 a n c 0 0 Try.underlying23
  rcases a with _ | ad
  · obtain rfl : n = 0 := by
      rcases Nat.eq_zero_or_pos n with h | h
      · exact h
      · obtain ⟨_, _, e, _⟩ := h1.at h; cases e
    obtain rfl := h1.isnil
    go_enter Try.func47, Try.ntmps47
    go_wp2_with fail
    go_ret
    exact ⟨none, 0, rfl, OwR.nil _ _ _, Ext.refl w⟩
  · have ho0 := OwR.litNil (α := Sn) (E := 77) (base := w.heap.size) w (Nat.le_refl _)
    have h2 := h1.ext ((Ext.refl w).alloc (.cells #[] 77))
    go_enter Try.func47, Try.ntmps47
    go_wp2_with (at_builtin; refine appRs el_sn rfl _ _ rfl _ w.heap.size _ _ _ _ rfl ho0 _ _ _ _ rfl h2 (by simp) (by unfold maxLen; omega) (by omega) ?_; intro a' c' w' ho hB; refine hold ?_)
    refine held ?_
    simp only [Nat.zero_add, List.nil_append] at ho ⊢
    go_wp2_with fail
    go_ret
    exact ⟨a', c', rfl, ho, Below.trans ((Ext.refl w).alloc _) hB⟩

theorem cloneWr_any (a : Option Addr) (n c : Nat) (xs : List Wr) (w : World) (h1 : Rw w a n c xs) (hs : n ≤ 1000000) :
    Calls Try.prog 48 #[.slice a n c] w fun e w' => ∃ a' c', e = .returned (.slice a' n c') ∧ OwR 60 w.heap.size w' a' n c' xs ∧ Ext w w' := by
  have bd := h1.bd
  have hnil := fun (W : World) => Lib.run_eql_slice_nil (P := Try.prog) W 24 60 a n c 0 0 Try.underlying24
  rcases a with _ | ad
  · obtain rfl : n = 0 := by
      rcases Nat.eq_zero_or_pos n with h | h
      · exact h
      · obtain ⟨_, _, e, _⟩ := h1.at h; cases e
    obtain rfl := h1.isnil
    go_enter Try.func48, Try.ntmps48
    go_wp2_with fail
    go_ret
    exact ⟨none, 0, rfl, OwR.nil _ _ _, Ext.refl w⟩
  · have ho0 := OwR.litNil (α := Wr) (E := 60) (base := w.heap.size) w (Nat.le_refl _)
    have h2 := h1.ext ((Ext.refl w).alloc (.cells #[] 60))
    go_enter Try.func48, Try.ntmps48
    go_wp2_with (at_builtin; refine appRs el_wr rfl _ _ rfl _ w.heap.size _ _ _ _ rfl ho0 _ _ _ _ rfl h2 (by simp) (by unfold maxLen; omega) (by omega) ?_; intro a' c' w' ho hB; refine hold ?_)
    refine held ?_
    simp only [Nat.zero_add, List.nil_append] at ho ⊢
    go_wp2_with fail
    go_ret
    exact ⟨a', c', rfl, ho, Below.trans ((Ext.refl w).alloc _) hB⟩

theorem eqVn (k t v : Int) (g : Bool) (k' t' v' : Int) (g' : Bool) (w : World) : (Op.equalIn 10000 47 (.agg #[.int .i64 k, .int .i64 t, .int .i64 v, .bool g]) (.agg #[.int .i64 k', .int .i64 t', .int .i64 v', .bool g'])).run Try.prog w = .ok (decide ((⟨k, t, v, g⟩ : Vn) = ⟨k', t', v', g'⟩)) w := by
  have u3 := Try.underlying3
  have a3 := Try.isAgg3
  have z3 := Try.sizeOf3
  have u4 := Try.underlying4
  have a4 := Try.isAgg4
  have z4 := Try.sizeOf4
  have hS : Try.prog.underlying 47 = some (.struct (Try.prog.fieldsOf 47)) := by kernel_rfl
  have hp : Try.prog.stoodInHeld 47 = false := by kernel_rfl
  rw [show (10000 : Nat) = 9999 + 1 from rfl, run_equalIn_agg w 9999 47 _ _ hS hp]
  simp only [Program.fieldsOf, Try.underlying47]
  go_simp
  by_cases h0 : k = k'
  · by_cases h1 : t = t'
    · by_cases h2 : v = v'
      · by_cases h3 : g = g'
        · simp [h0, h1, h2, h3]
        · simp [h0, h1, h2, h3]
      · simp [h0, h1, h2]
    · simp [h0, h1]
  · simp [h0]

theorem res_at (W : World) (b : Nat) (v0 v1 v2 v3 z1 z2 : Value) (tmps : Array Value) (hb : tmps[6]?.getD undef = .pointer (some ⟨b, 0, none⟩)) (h7 : tmps[7]?.getD undef = z1) (h8 : tmps[8]?.getD undef = z2) (h : Bk W b 47 #[v0, v1, v2, v3]) :
    (results Try.f25 tmps).run Try.prog W = .ok (.tuple #[.agg #[v0, v1, v2, v3], z1, z2]) W := by
  have c0 := h.c 0 _ rfl
  have c1 := h.c 1 _ rfl
  have c2 := h.c 2 _ rfl
  have c3 := h.c 3 _ rfl
  simp [results, Try.results25, go_sem, hb, h7, h8, c0, c1, c2, c3]

def atB (l : List Vn) (k t : Int) : Bool := validV l && (inT k 1 1000 && inT t 1 3000000000000000)
theorem lastV_zero {l : List Vn} (hs : AscV l) {k t : Int} (hk : 1 ≤ k) : decide (lastV l k t = v0) = decide ((lastV l k t).k = 0) := decide_eq_decide.2 ((lastV_isP hs k t).zero_iff hk)
set_option maxHeartbeats 2000000 in
theorem vat_any (a : Option Addr) (n c : Nat) (l : List Vn) (k t : Int) (w : World) (h1 : Rw w a n c l) (hB : atB l k t = true) :
    Calls Try.prog 25 #[.slice a n c, .int .i64 k, .int .i64 t] w fun e w' => e = .returned (.tuple #[valV (ansV (lastV l k t)), .bool (ansB (lastV l k t)), .int .i64 0]) ∧ Ext w w' := by
  simp only [atB, Bool.and_eq_true] at hB
  obtain ⟨g1, g2, g3⟩ := hB
  have hs := (validV_iff.1 g1).2.1
  have HZ := Lib.hid (lastV_zero hs (k := k) (t := t) (inT_iff.1 g2).1)
  have hva := fun (V : World) (hx : Ext w V) => vvalid_any a n c l V (h1.ext hx)
  rw [g1] at hva
  have hik := fun V => viskey_any k V
  rw [g2] at hik
  have hst := fun V => vstamp_any t V
  rw [g3] at hst
  have hla := fun (V : World) (hx : Ext w V) => vlast_any a n c l k t V (h1.ext hx) hs
  generalize lastV l k t = y at *
  have HVA := Lib.hid hva
  have HIK := Lib.hid hik
  have HST := Lib.hid hst
  have HLA := Lib.hid hla
  clear hva hik hst hla g1 g2 g3 hs
  have hR := Bk.new w 47 #[.int .i64 0, .int .i64 0, .int .i64 0, .bool false]
  have hE : Ext w (w.alloc (.cells #[.int .i64 0, .int .i64 0, .int .i64 0, .bool false] 47)) := (Ext.refl w).alloc _
  go_enter Try.func25, Try.ntmps25
  go_upto_region 1 with fail
  generalize w.alloc (.cells #[.int .i64 0, .int .i64 0, .int .i64 0, .bool false] 47) = V at *
  go_wp2_with (go_at_call 33; refine (HVA.out V hE).mono ?_; rintro e V1 ⟨rfl, hx⟩; refine hold ?_)
  refine held ?_
  replace hR := hR.ext hx
  replace hE := hE.trans hx
  clear hx
  go_wp2_with ((first | (go_at_call 45; refine (HIK.out _).mono ?_) | (go_at_call 38; refine (HST.out _).mono ?_)); rintro _ _ ⟨rfl, rfl⟩)
  refine (HLA.out _ hE).mono ?_
  rintro e V2 ⟨rfl, hx⟩
  replace hR := hR.ext hx
  replace hE := hE.trans hx
  clear hx
  obtain ⟨yk, yt, yv, yg⟩ := y
  unfold valV
  have hz := fun W => eqVn yk yt yv yg 0 0 0 false W
  rw [show (⟨0, 0, 0, false⟩ : Vn) = v0 from rfl, HZ.out] at hz
  simp only at hz
  generalize hzd : decide (yk = 0) = ZD at hz
  have HZD := Lib.hid hzd
  clear hzd
  have HQ := Lib.hid (Bk.new V2 47 #[.int .i64 yk, .int .i64 yt, .int .i64 yv, .bool yg])
  have hEq : Ext V2 (V2.alloc (.cells #[.int .i64 yk, .int .i64 yt, .int .i64 yv, .bool yg] 47)) := (Ext.refl V2).alloc _
  go_upto_region 4 with fail
  replace hR := hR.ext hEq
  replace hE := hE.trans hEq
  clear hEq
  have hQ := HQ.out
  generalize V2.alloc (.cells #[.int .i64 yk, .int .i64 yt, .int .i64 yv, .bool yg] 47) = V3 at *
  have q0 := hQ.c 0 _ rfl
  have q1 := hQ.c 1 _ rfl
  have q2 := hQ.c 2 _ rfl
  have q3 := hQ.c 3 _ rfl
  have r0 := hR.c 0 _ rfl
  have r1 := hR.c 1 _ rfl
  have r2 := hR.c 2 _ rfl
  have r3 := hR.c 3 _ rfl
  have fz := hR.free
  obtain ⟨rb, hrb⟩ : ∃ rb, w.heap.size = rb := ⟨_, rfl⟩
  have hwr : w.heap.size ≤ rb := by omega
  rw [hrb] at hR r0 r1 r2 r3 fz ⊢
  clear hrb
  cases ZD with
  | true =>
    have HA : Hid (ansV ⟨yk, yt, yv, yg⟩ = v0 ∧ ansB ⟨yk, yt, yv, yg⟩ = false) := Lib.hid (by
      have : yk = 0 := by simpa using HZD.out
      subst this
      exact ⟨if_pos (.inr rfl), by simp [ansB]⟩)
    go_wp2_with fail
    refine bodyPost_ret (res_at _ rb (.int .i64 0) (.int .i64 0) (.int .i64 0) (.bool false) (.bool false) (.int .i64 0) _ (by rfl) (by rfl) (by rfl) (hR.set4 _ _ _ _)) rfl ?_
    exact ⟨by rw [HA.out.1, HA.out.2]; rfl, hE.set4 hwr _ _ _ _⟩
  | false =>
    cases yg with
    | true =>
      have HA : Hid (ansV ⟨yk, yt, yv, true⟩ = v0 ∧ ansB ⟨yk, yt, yv, true⟩ = false) := Lib.hid ⟨if_pos (.inl rfl), by simp [ansB]⟩
      go_wp2_with fail
      refine bodyPost_ret (res_at _ rb (.int .i64 0) (.int .i64 0) (.int .i64 0) (.bool false) (.bool false) (.int .i64 0) _ (by rfl) (by rfl) (by rfl) (hR.set4 _ _ _ _)) rfl ?_
      exact ⟨by rw [HA.out.1, HA.out.2]; rfl, hE.set4 hwr _ _ _ _⟩
    | false =>
      have HA : Hid (ansV ⟨yk, yt, yv, false⟩ = ⟨yk, yt, yv, false⟩ ∧ ansB ⟨yk, yt, yv, false⟩ = true) := Lib.hid (by
        have : ¬ yk = 0 := by simpa using HZD.out
        exact ⟨if_neg (by rintro (h | h); cases h; exact this h), by simp [ansB, this]⟩)
      go_wp2_with fail
      refine bodyPost_ret (res_at _ rb (.int .i64 yk) (.int .i64 yt) (.int .i64 yv) (.bool false) (.bool true) (.int .i64 0) _ (by rfl) (by rfl) (by rfl) (hR.set4 _ _ _ _)) rfl ?_
      exact ⟨by rw [HA.out.1, HA.out.2]; rfl, hE.set4 hwr _ _ _ _⟩
end Go.Proofs.Ytacicanjmleikaa
