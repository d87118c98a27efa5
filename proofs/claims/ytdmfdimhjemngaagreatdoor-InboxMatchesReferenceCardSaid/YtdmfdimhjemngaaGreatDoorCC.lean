
import Derived.Test.YtdmfdimhjemngaaGreatDoorCB
/-
  Valid chains, by the reference; walked.
-/
namespace Go.Proofs.YtdmfdimhjemngaaGreatDoor
open Go.RowKit Go.Sort Go.Shelf
set_option linter.unusedSimpArgs false
set_option linter.unusedVariables false
set_option maxRecDepth 100000

/-- A chain lies in a block of its own. -/
def ChB (W : World) (b : Nat) (host : Int) (a : Option Addr) (n c : Nat) : Prop := W.heap[b]? = some (.cells #[.int .i64 host, .slice a n c] 24 (0, 0))
theorem ChB.ext {W W' : World} {b : Nat} {host : Int} {a : Option Addr} {n c : Nat} (h : ChB W b host a n c) (he : Ext W W') : ChB W' b host a n c := (he.block _ (lt_of_block h)).trans h
theorem ChB.new (w : World) (host : Int) (a : Option Addr) (n c : Nat) : ChB (w.alloc (.cells #[.int .i64 host, .slice a n c] 24)) w.heap.size host a n c := World.alloc_heap_new w _
theorem ChB.c0 {W : World} {b : Nat} {host : Int} {a : Option Addr} {n c : Nat} (h : ChB W b host a n c) : W.cell? ⟨b, 0, none⟩ = some (.int .i64 host) := cell_of_block h 0 _ rfl
theorem ChB.c1 {W : World} {b : Nat} {host : Int} {a : Option Addr} {n c : Nat} (h : ChB W b host a n c) : W.cell? ⟨b, 1, none⟩ = some (.slice a n c) := cell_of_block h 1 _ rfl
theorem ChB.lt {W : World} {b : Nat} {host : Int} {a : Option Addr} {n c : Nat} (h : ChB W b host a n c) : b < W.heap.size := lt_of_block h

set_option maxHeartbeats 4000000 in
theorem rvalid_any (host : Int) (hho : (Lit.int .i64 host).wf = true) (a : Option Addr) (n c : Nat) (rs : List (List Rp)) (w : World) (h1 : Rws w a n c rs) (hs : Short2 n rs) :
    Calls Tryz.prog 25 #[.agg #[.int .i64 host, .slice a n c]] w fun e w' => e = .returned (.bool (validF host rs)) ∧ Ext w w' := by
  have bd := h1.bd
  have HL := Lib.hid h1.hlen
  have hE0 : Ext w (w.alloc (.cells #[.int .i64 host, .slice a n c] 24)) := (Ext.refl w).alloc _
  rcases hin : inC host 1 64 with _ | _
  · have HI := Lib.hid hin
    clear hin
    have hv : validF host rs = false := by unfold validF; rw [HI.out]; rfl
    rw [hv]
    go_enter Tryz.func25, Tryz.ntmps25
    go_wp2_with fail
    refine (rwithin_any _ _ _ _).mono ?_
    rintro e w' ⟨rfl, rfl⟩
    rw [HI.out]
    go_wp2_with fail
    go_ret
    exact ⟨rfl, hE0⟩
  have HI := Lib.hid hin
  clear hin
  by_cases hn : 200 < n
  · have hq : decide ((200 : Int) < (n : Int)) = true := by simp; omega
    have hv : validF host rs = false := by unfold validF; rw [HI.out, decide_eq_false (by rw [HL.out]; omega)]; rfl
    rw [hv]
    go_enter Tryz.func25, Tryz.ntmps25
    go_wp2_with fail
    refine (rwithin_any _ _ _ _).mono ?_
    rintro e w' ⟨rfl, rfl⟩
    rw [HI.out]
    go_wp2_with fail
    go_ret
    exact ⟨rfl, hE0⟩
  have hq : decide ((200 : Int) < (n : Int)) = false := by simp; omega
  have HS : Hid (Short rs) := hs (by omega)
  have hv : validF host rs = (List.range rs.length).all (validAt host rs) := by unfold validF; rw [HI.out, decide_eq_true (by rw [HL.out]; omega)]; rfl
  rw [hv]
  clear hv hs
  have hC0 := ChB.new w host a n c
  go_enter Tryz.func25, Tryz.ntmps25
  go_wp2_with fail
  refine (rwithin_any _ _ _ _).mono ?_
  rintro e w' ⟨rfl, rfl⟩
  rw [HI.out]
  go_wp2_with fail
  go_loopw [3, 4] (fun h i wr => ∃ k : Nat, k ≤ n ∧ i = .int .i64 k ∧ h = .int .u64 (headF (rs.take k)) ∧ (∀ i, i < k → validAt host rs i = true) ∧ Ext w wr ∧ ChB wr w.heap.size host a n c) (fun _ i _ => n - (intOf i).toNat)
  case atStart => exact ⟨0, by omega, rfl, rfl, fun i hi => absurd hi (by omega), hE0, hC0⟩
  case round =>
    obtain ⟨k, hk, rfl, rfl, hok, hE, hC⟩ := hrel
    have HOK := Lib.hid hok
    clear hok hC0
    have c0 := hC.c0
    have c1 := hC.c1
    have cl := hC.lt
    by_cases hlt : k < n
    · obtain ⟨x1, o1, rfl, hc1⟩ := h1.at (by omega)
      obtain ⟨a', n', c', hc, hr⟩ := hc1 k hlt
      have hcc := hE.cell hc
      have hl2 := lt_of_cell hcc
      simp only at hl2
      have hl := HS.out.at (k := k) (by rw [HL.out]; exact hlt)
      rw [hr.hlen] at hl
      have hht := Lib.hid (headF_take (rs := rs) (k := k) (by rw [HL.out]; exact hlt))
      have hrng := headF_rng (rs.take k)
      have hva : Hid (validAt host rs k = fitsF host ((k : Int) + 1) (headF (rs.take k)) (nthS rs k)) := rfl
      have hwn : (Lit.int .i64 ((k : Int) + 1)).wf = true := by have := nat_wf (n := k + 1) (by omega); simpa using this
      have hg := @grow_cell
      clear hc1 hc
      have hwr : IntKind.i64.wrap ((k : Int) + 1) = (k : Int) + 1 := IntWalk.i64_in _ (by omega)
      go_upto_region 7 with fail
      have hright := fun W (hW : Ext wr W) => right_any a' n' c' (nthS rs k) host ((k : Int) + 1) (headF (rs.take k)) hho hwn hrng W (hr.ext (hE.trans hW))
      have HR := Lib.hid hright
      clear hright
      rcases hf : fitsF host ((k : Int) + 1) (headF (rs.take k)) (nthS rs k) with _ | _
      · have HF := Lib.hid hf
        have hcall := fun d os => HR.out (grow (redrawn wr d) os) (ext_grow wr d os)
        rw [hf] at hcall
        clear hf
        refine region_ext (by kernel_rfl) (by kernel_rfl) ?_
        repeat (go_big_quiet_step ((go_at_call 48; exact Calls.regrown_of (hcall _ _))))
        refine wpQuiet_nil ?_
        intro w' hE'
        go_wp2_with fail
        go_ret
        refine ⟨ret_bool ?_, hE.trans hE'⟩
        rw [all_range_no (k := k) (by rw [HL.out]; exact hlt) (hva.out.trans HF.out)]
      · have HF := Lib.hid hf
        have hcall := fun d os => HR.out (grow (redrawn wr d) os) (ext_grow wr d os)
        rw [hf] at hcall
        clear hf
        refine region_ext (by kernel_rfl) (by kernel_rfl) ?_
        repeat (go_big_quiet_step ((go_at_call 48; exact Calls.regrown_of (hcall _ _))))
        refine wpQuiet_nil ?_
        intro w' hE'
        have c0' := hE'.cell c0
        have c1' := hE'.cell c1
        have hcc' := hE'.cell hcc
        clear c0 c1 hcc hcall hwr hg
        go_wp2_with fail
        refine (rbehind_any _ hrng a' n' c' _ w' (hr.ext (hE.trans hE')) hl).mono ?_
        rintro e w1 ⟨rfl, hE1⟩
        go_wp2_with fail
        refine ⟨⟨k + 1, by omega, by go_num, by rw [hht.out], fun i hi => ?_, (hE.trans hE').trans hE1, hC.ext (hE'.trans hE1)⟩, by simp [intOf]; omega⟩
        by_cases e : i = k
        · rw [e]; exact hva.out.trans HF.out
        · exact HOK.out i (by omega)
    · obtain rfl : k = n := by omega
      go_wp2_with fail
      go_ret
      refine ⟨ret_bool ?_, hE⟩
      rw [all_range.2 (fun i hi => HOK.out i (by rw [← HL.out]; exact hi))]
end Go.Proofs.YtdmfdimhjemngaaGreatDoor

/-
  Whether a chain has a reply, by both; walked.
-/
namespace Go.Proofs.YtdmfdimhjemngaaGreatDoor
open Go.RowKit Go.Sort Go.Shelf
set_option linter.unusedSimpArgs false
set_option linter.unusedVariables false
set_option maxRecDepth 100000

theorem any_iff {xs : List Rp} {auth : Int} : (xs.any fun x => x.a == auth) = true ↔ ∃ i, i < xs.length ∧ (nthR xs i).a = auth := by
  rw [List.any_eq_true]
  constructor
  · rintro ⟨x, hx, h⟩
    obtain ⟨i, hi, rfl⟩ := List.mem_iff_getElem.mp hx
    exact ⟨i, hi, by rw [nthR_get hi]; simpa using h⟩
  · rintro ⟨i, hi, h⟩
    exact ⟨nthR xs i, nthR_mem hi, by simpa using h⟩
theorem any_no {xs : List Rp} {auth : Int} (h : ∀ i, i < xs.length → (nthR xs i).a ≠ auth) : (xs.any fun x => x.a == auth) = false := by
  rw [Bool.eq_false_iff]
  intro e
  obtain ⟨i, hi, h1⟩ := any_iff.1 e
  exact h i hi h1

def IdxPost (w : World) (xs : List Rp) (auth : Int) (e : Ending) (w' : World) : Prop := ∃ v : Int, e = .returned (.int .i64 v) ∧ decide (0 ≤ v) = (xs.any fun x => x.a == auth) ∧ Ext w w'

end Go.Proofs.YtdmfdimhjemngaaGreatDoor

/-
  Which reply was made before which, by both; walked.
-/
namespace Go.Proofs.YtdmfdimhjemngaaGreatDoor
open Go.RowKit Go.Sort Go.Shelf
set_option linter.unusedSimpArgs false
set_option linter.unusedVariables false
set_option maxRecDepth 100000

end Go.Proofs.YtdmfdimhjemngaaGreatDoor

/-
  Clones of rounds and of replies; append of a round at a step of a region that draws its order.
-/
namespace Go.Proofs.YtdmfdimhjemngaaGreatDoor
open Go.RowKit Go.Sort Go.Shelf
set_option linter.unusedSimpArgs false
set_option linter.unusedVariables false
set_option maxRecDepth 100000

theorem el_rp : ElS Tryz.prog 27 60 (.agg #[.int .i64 0, .int .i64 0, .int .i64 0, .int .u64 0, .int .i64 0, .int .i64 0, .int .i64 0, .int .i64 0, .int .i64 0, .int .i64 0]) (Cel.sz Rp) 80 := ⟨by kernel_rfl, by kernel_rfl, rfl, by decide⟩
theorem el_rd : ElS Tryz.prog 22 45 (.agg #[.slice none 0 0]) 1 24 := ⟨by kernel_rfl, by kernel_rfl, rfl, by decide⟩

/-- 'append(s, t...)', t a slice of slices that is empty. -/
theorem append_none {P : Program} {T T1 : TypeId} {z : Value} (hE : ElS P T T1 z 1 24) {ops : Array Oper} {rest : List Oper} {o : Oper} {a : Act} {Q : Exit → Act → World → Prop} (hgd : o.guard = none) (s x : Operand)
    (ho : o.op = .call { callee := .builtin .append, args := #[s, x], argTypes := #[T, T] })
    (w : World) (base : Nat) (sa : Option Addr) (c : Nat) (hs : a.eval s = .slice sa 0 c) (hown : OwRs T1 base w sa 0 c ([] : List (List Rp)))
    (ta : Option Addr) (tc : Nat) (hx : a.eval x = .slice ta 0 tc) (hbase : base ≤ w.heap.size)
    (h : ∀ a' cap w', OwRs T1 base w' a' 0 cap ([] : List (List Rp)) → Below base w w' → wpList P ops Q rest (a.put o.dst (.slice a' 0 cap)) w') :
    wpList P ops Q (o :: rest) a w := by
  obtain ⟨hT, hI, hzs, hsz⟩ := hE
  obtain ⟨i, hi, hz, hsz', hby⟩ := info_parts hI
  obtain ⟨h0, vs, hrow, hin⟩ := hown
  rcases ta with _ | ad
  · refine wpList_plain hgd fun K hK => ?_
    have hrun := run_append_none (P := P) (w := w) base T o.type T1 i _ hT hi _ 0 _ hrow tc
    unfold Oper.wp
    simp [execOp, ho, resolve, invoke, builtin, hs, hx, hrun, Result.andThen]
    exact hK _ _ (h sa c w ⟨h0, vs, hrow, hin⟩ (Below.refl _ _))
  · obtain ⟨v', w', hr, h2, h3, _, h5⟩ := run_append_own_at (P := P) w base T o.type T1 i z _ 24 hT hi hz hsz' hby hzs hsz _ 0 _ hrow ad 0 tc [] (by simp) (by simp) (by simp) (by simp [maxLen]) (by simp) hbase
    have hv : ∃ a' cap, v' = .slice a' 0 cap := by
      rcases h2.2 with ⟨hv, h0⟩ | ⟨g, cap, cur, hv, _⟩
      · exact ⟨none, 0, hv⟩
      · exact ⟨_, cap, by simpa using hv⟩
    obtain ⟨a', cap, rfl⟩ := hv
    refine wpList_plain hgd fun K hK => ?_
    unfold Oper.wp
    simp only [execOp, ho, resolve, invoke, builtin, Sem.run_bind, Sem.run_pure, Result.andThen_ok, List.map_toArray, List.map_cons, List.map_nil, hs, hx, hr]
    refine hK _ _ (h a' cap w' ⟨rfl, _, h2, fun i hi => absurd hi (by omega)⟩ ((Below.refl base w).grown h3 hbase fun k hk => (hrow.lt k hk).1))

theorem cloneR_any (a : Option Addr) (n c : Nat) (xs : List Rp) (w : World) (h1 : Rw w a n c xs) (hs : n ≤ 1000) :
    Calls Tryz.prog 39 #[.slice a n c] w fun e w' => ∃ a' c', e = .returned (.slice a' n c') ∧ OwR 60 w.heap.size w' a' n c' xs ∧ Ext w w' := by
  have bd := h1.bd
  have hnil := fun (W : World) => Lib.run_eql_slice_nil (P := Tryz.prog) W 27 60 a n c 0 0 Tryz.underlying27
  rcases a with _ | ad
  · obtain rfl : n = 0 := by
      rcases Nat.eq_zero_or_pos n with h | h
      · exact h
      · obtain ⟨_, _, e, _⟩ := h1.at h; cases e
    obtain rfl := h1.isnil
    go_enter Tryz.func39, Tryz.ntmps39
    go_wp2_with fail
    go_ret
    exact ⟨none, 0, rfl, OwR.nil _ _ _, Ext.refl w⟩
  · have ho0 := OwR.litNil (α := Rp) (E := 60) (base := w.heap.size) w (Nat.le_refl _)
    have h2 := h1.ext ((Ext.refl w).alloc (.cells #[] 60))
    go_enter Tryz.func39, Tryz.ntmps39
    go_wp2_with (at_builtin; refine appRs el_rp rfl _ _ rfl _ w.heap.size _ _ _ _ rfl ho0 _ _ _ _ rfl h2 (by simp) (by unfold maxLen; omega) (by omega) ?_; intro a' c' w' ho hB; refine hold ?_)
    refine held ?_
    simp only [Nat.zero_add, List.nil_append] at ho ⊢
    go_wp2_with fail
    go_ret
    exact ⟨a', c', rfl, ho, Below.trans ((Ext.refl w).alloc _) hB⟩

end Go.Proofs.YtdmfdimhjemngaaGreatDoor
