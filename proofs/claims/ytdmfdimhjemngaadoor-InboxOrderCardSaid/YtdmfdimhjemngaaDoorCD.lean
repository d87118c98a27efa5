
import Derived.Test.YtdmfdimhjemngaaDoorCC
/-
  A chain with a further round, by the program; walked.
-/
namespace Go.Proofs.YtdmfdimhjemngaaDoor
open Go.RowKit Go.Sort Go.Shelf
set_option linter.unusedSimpArgs false
set_option linter.unusedVariables false
set_option maxRecDepth 100000

/-- 'append(s, x)' of a round at a step of a region that draws its order: x has been put into a block of its own. -/
theorem stepRss {P : Program} {T T1 : TypeId} {z : Value} (hE : ElS P T T1 z 1 24) {ops : Array Oper} {o : Oper} {a : Act} {K : Act → World → Prop} {Q : Exit → Act → World → Prop} {Ex : Prop} (hgd : o.guard = none) (s x : Operand)
    (ho : o.op = .call { callee := .builtin .append, args := #[s, x], argTypes := #[T, T] })
    (w : World) (base : Nat) (sa : Option Addr) (n c : Nat) (xss : List (List Rp)) (hs : a.eval s = .slice sa n c) (hown : OwRs T1 base w sa n c xss)
    (la : Option Addr) (ln lc : Nat) (ys : List Rp) (hl : Rw w la ln lc ys) (hne : ∀ b off, la = some ⟨b, off, none⟩ → 0 < ln → sa ≠ some ⟨b, 0, none⟩)
    (hx : a.eval x = .slice (some ⟨w.heap.size, 0, none⟩) 1 1) (hbase : base ≤ w.heap.size) (h63 : n + 1 ≤ maxLen) (hbytes : (n + 1) * 24 ≤ 140737488355328)
    (h : ∀ g cap w', OwRs T1 base w' (some ⟨g, 0, none⟩) (n + 1) cap (xss ++ [ys]) → Below base w w' → K (a.put o.dst (.slice (some ⟨g, 0, none⟩) (n + 1) cap)) w') :
    if Region.wanted o (yielded ops a.tmps) = true then Oper.wp P o a (w.alloc (.cells #[.slice la ln lc] T1)) K Q else Ex := by
  obtain ⟨hT, hI, hzs, hsz⟩ := hE
  obtain ⟨i, hi, hz, hsz', hby⟩ := info_parts hI
  obtain ⟨hlen, vs, hrow, hvs⟩ := hown
  have hrow' : (w.alloc (.cells #[.slice la ln lc] T1)).ownsRow base T1 1 (.slice sa n c) n vs := World.ownsRow.alloc hrow _
  refine step_append_lies (w.alloc (.cells #[.slice la ln lc] T1)) hgd s x T ho base T1 i z 1 24 hT hi hz hsz' hby hzs hsz _ n _ hs hrow' ⟨w.heap.size, 0, none⟩ 1 1 [.slice la ln lc] hx rfl
    (cell_one_new _ _ _) (by simp [Value.oneCell']) (by decide) h63 hbytes (by simp; omega) (w.heap.size + 1) (by simp) ?_
  intro g cap w' h2 hg h4 _
  have hvl : vs.length = n := by have := hrow.1; omega
  refine h g cap w' ⟨by simp [hlen], _, h2, fun i hi => ?_⟩ (((Below.refl base w).alloc hbase _).trans (below_grown hrow' (by simp; omega) hg))
  have key : ∀ (a' : Option Addr) (n' c' : Nat) (zs : List Rp), Rw w a' n' c' zs → (∀ b off, a' = some ⟨b, off, none⟩ → 0 < n' → sa ≠ some ⟨b, 0, none⟩) → Rw w' a' n' c' zs ∧ (∀ b off, a' = some ⟨b, off, none⟩ → 0 < n' → (some ⟨g, 0, none⟩ : Option Addr) ≠ some ⟨b, 0, none⟩) := by
    intro a' n' c' zs hz hzne
    have hrowne : ∀ b off, a' = some ⟨b, off, none⟩ → 0 < n' → some b ≠ (Value.slice sa n c).ownBlock := by
      intro b off ha hn e
      rcases hrow.2 with ⟨hv, _⟩ | ⟨g', cap', cur, hv, _⟩
      · simp only [Value.slice.injEq] at hv; obtain ⟨rfl, _, _⟩ := hv; cases e
      · simp only [Value.slice.injEq] at hv; obtain ⟨rfl, _, _⟩ := hv
        simp only [Value.ownBlock, Option.some.injEq] at e
        subst e
        exact hzne b off ha hn rfl
    refine ⟨(hz.ext ((Ext.refl w).alloc _)).below (fun b off ha hn => hg.block b (by have := hz.lt ha hn; simp; omega) (hrowne b off ha hn)), fun b off ha hn e => ?_⟩
    simp only [Option.some.injEq, Addr.mk.injEq, and_true] at e
    subst e
    rcases h4 with h4 | h4
    · exact hrowne g off ha hn h4.symm
    · have := hz.lt ha hn
      omega
  rcases Nat.lt_or_ge i n with hin | hin
  · obtain ⟨a', n', c', h5, h6, h7⟩ := hvs i hin
    obtain ⟨k1, k2⟩ := key a' n' c' _ h6 h7
    exact ⟨a', n', c', by rw [List.getElem?_append_left (by omega)]; exact h5, by rw [nthS_app_left (by omega)]; exact k1, k2⟩
  · obtain rfl : i = n := by omega
    obtain ⟨k1, k2⟩ := key la ln lc ys hl hne
    refine ⟨la, ln, lc, by rw [← hvl]; simp, ?_, k2⟩
    rw [nthS_app hlen (Nat.le_refl _), Nat.sub_self]
    exact k1

theorem ChB.stored {W : World} {b : Nat} {x : Int} {a : Option Addr} {n c : Nat} (h : ChB W b x a n c) (x' : Int) (a' : Option Addr) (n' c' : Nat) : ChB ((W.setCell ⟨b, 0, none⟩ (.int .i64 x')).setCell ⟨b, 1, none⟩ (.slice a' n' c')) b x' a' n' c' := by
  have g1 : (W.setCell ⟨b, 0, none⟩ (.int .i64 x')).heap[b]? = some (.cells #[.int .i64 x', .slice a n c] 24 (0, 0)) := heap_setCell_same _ b 0 _ _ _ h
  exact heap_setCell_same _ b 1 _ _ _ g1

theorem res_append (W : World) (b : Nat) (x : Int) (a : Option Addr) (n c : Nat) (z : Int) (tmps : Array Value) (h4 : tmps[4]?.getD undef = .pointer (some ⟨b, 0, none⟩)) (h5 : tmps[5]?.getD undef = .int .i64 z) (h : ChB W b x a n c) :
    (results Tryd.f25 tmps).run Tryd.prog W = .ok (.tuple #[.agg #[.int .i64 x, .slice a n c], .int .i64 z]) W := by
  have c0 := h.c0
  have c1 := h.c1
  simp [results, Tryd.results25, go_sem, h4, h5, c0, c1]

/-- No replies lie in a chain's own block. -/
theorem Rw.not_ch {W : World} {b : Nat} {v0 v1 : Value} {t : TypeId} (hC : W.heap[b]? = some (.cells #[v0, v1] t (0, 0))) {a : Option Addr} {n c : Nat} {xs : List Rp} (h : Rw W a n c xs) : ∀ b' off, a = some ⟨b', off, none⟩ → 0 < n → b' ≠ b := by
  rintro b' off rfl hn rfl
  obtain ⟨b2, off2, he, hc⟩ := h.cells 0 hn
  simp only [Option.some.injEq, Addr.mk.injEq, and_true] at he
  obtain ⟨rfl, rfl⟩ := he
  have h2 := hc 2 _ rfl
  rw [cell_of_row W b' _ _ _ _ hC] at h2
  rw [Array.getElem?_eq_none (by simp <;> omega)] at h2
  cases h2
theorem OwRs.setCh {T : TypeId} {base : Nat} {w : World} {g n c : Nat} {xss : List (List Rp)} (h : OwRs T base w (some ⟨g, 0, none⟩) n c xss) {b : Nat} {v0 v1 : Value} {t : TypeId} (hC : w.heap[b]? = some (.cells #[v0, v1] t (0, 0))) (hne : b ≠ g) (j : Nat) (v : Value) :
    OwRs T base (w.setCell ⟨b, j, none⟩ v) (some ⟨g, 0, none⟩) n c xss := by
  obtain ⟨h0, vs, h1, h2⟩ := h
  refine ⟨h0, vs, World.ownsRow.kept (row := some b) h1 ⟨rfl, rfl, rfl, (KeepsOthers.setCell w _ _).size, fun k hk hkb => heap_setCell_other w ⟨b, j, none⟩ k v (fun e => hkb (by rw [e]))⟩ (.inr (by simp [Value.ownBlock]; omega)), fun i hi => ?_⟩
  obtain ⟨a', n', c', h3, h4, h5⟩ := h2 i hi
  exact ⟨a', n', c', h3, h4.below (fun b' off ha hn => heap_setCell_other w ⟨b, j, none⟩ b' v (h4.not_ch hC b' off ha hn)), h5⟩

/-- A clone of replies lies in no row that was there before. -/
theorem clone_apart {T E : TypeId} {base : Nat} {w w' : World} {a3 : Option Addr} {n c3 : Nat} {rs : List (List Rp)} {a4 : Option Addr} {n2 c4 : Nat} {r : List Rp} (h3 : OwRs T base w a3 n c3 rs) (h4 : OwR E w.heap.size w' a4 n2 c4 r) :
    ∀ b off, a4 = some ⟨b, off, none⟩ → 0 < n2 → a3 ≠ some ⟨b, 0, none⟩ := by
  rintro b off rfl _ rfl
  have e3 := h3.ge
  have e4 := h4.2.lt b rfl
  omega

theorem validF_len {host : Int} {rs : List (List Rp)} (h : validF host rs = true) : rs.length ≤ 200 := by
  simp only [validF, Bool.and_eq_true, decide_eq_true_eq] at h
  exact h.2.1

/-- What a chain with a further round is. -/
def ApPost (w : World) (H : Int) (L : List (List Rp)) (E : Int) (e : Ending) (w' : World) : Prop := ∃ a' n' c', e = .returned (.tuple #[.agg #[.int .i64 H, .slice a' n' c'], .int .i64 E]) ∧ OwRs 66 w.heap.size w' a' n' c' L ∧ n' ≤ 1000 ∧ Ext w w'

set_option maxHeartbeats 4000000 in
theorem append_any (host : Int) (hho : (Lit.int .i64 host).wf = true) (a : Option Addr) (n c : Nat) (rs : List (List Rp)) (a2 : Option Addr) (n2 c2 : Nat) (r : List Rp) (w : World) (h1 : Rws w a n c rs) (h2 : Rw w a2 n2 c2 r) (hs : Short2 n rs) (hn2 : n2 ≤ 400) (ht : TB w) :
    Calls Tryd.prog 25 #[.agg #[.int .i64 host, .slice a n c], .agg #[.slice a2 n2 c2]] w (ApPost w (apdH host rs r) (apdL host rs r) (apdE host rs r)) := by
  have bd := h1.bd
  have bd2 := h2.bd
  have HT := Lib.hid ht
  have HL := Lib.hid h1.hlen
  clear ht
  have hC0 : ChB (((w.alloc (.cells #[.int .i64 host, .slice a n c] 24)).alloc (.cells #[.slice a2 n2 c2] 66)).alloc (.cells #[.int .i64 0, .slice none 0 0] 24)) w.heap.size host a n c := (ChB.new w host a n c).ext (((Ext.refl _).alloc _).alloc _)
  have hR0 : Boxed (((w.alloc (.cells #[.int .i64 host, .slice a n c] 24)).alloc (.cells #[.slice a2 n2 c2] 66)).alloc (.cells #[.int .i64 0, .slice none 0 0] 24)) (w.heap.size + 1) 66 (.slice a2 n2 c2) := by
    have := (Boxed.new (w.alloc (.cells #[.int .i64 host, .slice a n c] 24)) 66 (.slice a2 n2 c2)).alloc (.cells #[.int .i64 0, .slice none 0 0] 24)
    simp only [World.size_alloc] at this
    exact this
  have hT0 : ChB (((w.alloc (.cells #[.int .i64 host, .slice a n c] 24)).alloc (.cells #[.slice a2 n2 c2] 66)).alloc (.cells #[.int .i64 0, .slice none 0 0] 24)) (w.heap.size + 1 + 1) 0 none 0 0 := by
    have := ChB.new ((w.alloc (.cells #[.int .i64 host, .slice a n c] 24)).alloc (.cells #[.slice a2 n2 c2] 66)) 0 none 0 0
    simp only [World.size_alloc] at this
    exact this
  have hE0 : Ext w (((w.alloc (.cells #[.int .i64 host, .slice a n c] 24)).alloc (.cells #[.slice a2 n2 c2] 66)).alloc (.cells #[.int .i64 0, .slice none 0 0] 24)) := (((Ext.refl w).alloc _).alloc _).alloc _
  have hle1 : w.heap.size ≤ w.heap.size + 1 + 1 := by omega
  have hlt1 : w.heap.size < w.heap.size + 1 + 1 := by omega
  have hlt2 : w.heap.size + 1 < w.heap.size + 1 + 1 := by omega
  have hno : ∀ E, apdE host rs r = E → E ≠ 0 → apdH host rs r = 0 ∧ apdL host rs r = [] := fun E h h0 => by unfold apdH apdL; rw [h, if_neg h0, if_neg h0]; exact ⟨rfl, rfl⟩
  have hcall := valid_any host hho a n c rs _ (h1.ext hE0) hs (TB.ext HT.out hE0)
  rcases hv : validF host rs with _ | _
  · have e1 : apdE host rs r = 1 := by unfold apdE; rw [hv]; rfl
    obtain ⟨e2, e3⟩ := hno _ e1 (by decide)
    rw [hv] at hcall
    have HC := Lib.hid hcall
    rw [e1, e2, e3]
    clear hv hcall e1 e2 e3 hno
    go_enter Tryd.func25, Tryd.ntmps25
    go_upto_region 1 with fail
    generalize ((w.alloc (.cells #[.int .i64 host, .slice a n c] 24)).alloc (.cells #[.slice a2 n2 c2] 66)).alloc (.cells #[.int .i64 0, .slice none 0 0] 24) = V at *
    generalize w.heap.size + 1 + 1 = b3 at *
    have c0 := hC0.c0
    have c1 := hC0.c1
    have cl := hC0.lt
    go_wp2_with fail
    refine HC.out.mono ?_
    rintro e w1 ⟨rfl, hE1⟩
    have hT1 := hT0.ext hE1
    have f1 := free_of_block hT1 1
    have f0 := free_of_block hT1 0
    have t0 := hT1.c0
    have t1 := hT1.c1
    have hE2 := hE0.trans hE1
    have hE3 := (hE2.setCell (p := ⟨b3, 0, none⟩) hle1 (.int .i64 0)).setCell (p := ⟨b3, 1, none⟩) hle1 (.slice none 0 0)
    have hT3 := hT1.stored 0 none 0 0
    clear c0 c1
    go_wp2_with fail
    exact bodyPost_ret (res_append _ b3 0 none 0 0 1 _ (by rfl) (by rfl) hT3) rfl ⟨none, 0, 0, rfl, OwRs.nil _ _ _, by omega, hE3⟩
  rw [hv] at hcall
  have HC := Lib.hid hcall
  clear hcall
  by_cases hn : n = 200
  · have e1 : apdE host rs r = 2 := by unfold apdE; rw [hv, if_pos rfl, if_pos (by rw [HL.out]; exact hn)]
    obtain ⟨e2, e3⟩ := hno _ e1 (by decide)
    have hq : ((n : Int) == 200) = true := by simp [hn]
    rw [e1, e2, e3]
    have HN := Lib.hid hn
    clear hv e1 e2 e3 hno hn
    go_enter Tryd.func25, Tryd.ntmps25
    go_upto_region 1 with fail
    generalize ((w.alloc (.cells #[.int .i64 host, .slice a n c] 24)).alloc (.cells #[.slice a2 n2 c2] 66)).alloc (.cells #[.int .i64 0, .slice none 0 0] 24) = V at *
    generalize w.heap.size + 1 + 1 = b3 at *
    have c0 := hC0.c0
    have c1 := hC0.c1
    have cl := hC0.lt
    go_wp2_with fail
    refine HC.out.mono ?_
    rintro e w1 ⟨rfl, hE1⟩
    have hE2 := hE0.trans hE1
    have hC1 := hC0.ext hE1
    have hR1 : Boxed w1 (w.heap.size + 1) 66 _ := hR0.kept (grownBy_of_ext hE1) (by simp)
    have hT1 := hT0.ext hE1
    clear c0 c1 cl hC0 hR0 hT0 hE0 hE1
    have c0 := hC1.c0
    have c1 := hC1.c1
    have cl := hC1.lt
    have hT2 := hT1
    have f1 := free_of_block hT2 1
    have f0 := free_of_block hT2 0
    have t0 := hT2.c0
    have t1 := hT2.c1
    have hE3 := ((hE2).setCell (p := ⟨b3, 0, none⟩) hle1 (.int .i64 0)).setCell (p := ⟨b3, 1, none⟩) hle1 (.slice none 0 0)
    have hT3 := hT2.stored 0 none 0 0
    go_wp2_with fail
    exact bodyPost_ret (res_append _ b3 0 none 0 0 2 _ (by rfl) (by rfl) hT3) rfl ⟨none, 0, 0, rfl, OwRs.nil _ _ _, by omega, hE3⟩
  have hq : ((n : Int) == 200) = false := by simp; omega
  have hlen := validF_len hv
  rw [HL.out] at hlen
  have HS : Hid (Short rs) := hs hlen
  have hnI : (n : Int) + 1 ≤ 201 := by omega
  have hwn : (Lit.int .i64 ((n : Int) + 1)).wf = true := by have := nat_wf (n := n + 1) (by omega); simpa using this
  have hrng := headF_rng rs
  clear hs
  have hwr : IntKind.i64.wrap ((n : Int) + 1) = (n : Int) + 1 := IntWalk.i64_in _ (by omega)
  rcases hf : fitsF host ((n : Int) + 1) (headF rs) r with _ | _
  · have e1 : apdE host rs r = 30 := by unfold apdE; rw [hv, if_pos rfl, HL.out, if_neg hn, hf]; rfl
    obtain ⟨e2, e3⟩ := hno _ e1 (by decide)
    rw [e1, e2, e3]
    have HF := Lib.hid hf
    clear hv e1 e2 e3 hno hf
    go_enter Tryd.func25, Tryd.ntmps25
    go_upto_region 1 with fail
    generalize ((w.alloc (.cells #[.int .i64 host, .slice a n c] 24)).alloc (.cells #[.slice a2 n2 c2] 66)).alloc (.cells #[.int .i64 0, .slice none 0 0] 24) = V at *
    generalize w.heap.size + 1 + 1 = b3 at *
    have c0 := hC0.c0
    have c1 := hC0.c1
    have cl := hC0.lt
    go_wp2_with fail
    refine HC.out.mono ?_
    rintro e w1 ⟨rfl, hE1⟩
    have hE2 := hE0.trans hE1
    have hC1 := hC0.ext hE1
    have hR1 : Boxed w1 (w.heap.size + 1) 66 _ := hR0.kept (grownBy_of_ext hE1) (by simp)
    have hT1 := hT0.ext hE1
    clear c0 c1 cl hC0 hR0 hT0 hE0 hE1
    have c0 := hC1.c0
    have c1 := hC1.c1
    have cl := hC1.lt
    go_upto_region 5 with fail
    have hg := @grow_cell
    have c2r := hR1.cell
    have hlr := hR1.lt
    have hh := Lib.hid (fun d os => headf_any a n c rs (grow (redrawn w1 d) os) ((h1.ext hE2).ext (ext_grow w1 d os)) HS.out (TB.ext HT.out (hE2.trans (ext_grow w1 d os))))
    have hfit := fun d os => fits_any a2 n2 c2 r host ((n : Int) + 1) (headF rs) hho hwn hrng (grow (redrawn w1 d) os) ((h2.ext hE2).ext (ext_grow w1 d os)) (TB.ext HT.out (hE2.trans (ext_grow w1 d os)))
    rw [HF.out] at hfit
    have hft := Lib.hid hfit
    clear hfit
    refine region_ext (by kernel_rfl) (by kernel_rfl) ?_
    repeat (go_big_quiet_step (first | (go_at_call 54; exact Calls.regrown_of (hh.out _ _)) | (go_at_call 53; exact Calls.regrown_of (hft.out _ _))))
    refine wpQuiet_nil ?_
    intro w2 hE'
    clear hg hwr c0 c1 c2r
    have hT2 := hT1.ext hE'
    have f1 := free_of_block hT2 1
    have f0 := free_of_block hT2 0
    have t0 := hT2.c0
    have t1 := hT2.c1
    have hE3 := ((hE2.trans hE').setCell (p := ⟨b3, 0, none⟩) hle1 (.int .i64 0)).setCell (p := ⟨b3, 1, none⟩) hle1 (.slice none 0 0)
    have hT3 := hT2.stored 0 none 0 0
    go_wp2_with fail
    exact bodyPost_ret (res_append _ b3 0 none 0 0 30 _ (by rfl) (by rfl) hT3) rfl ⟨none, 0, 0, rfl, OwRs.nil _ _ _, by omega, hE3⟩
  have e1 : apdE host rs r = 0 := by unfold apdE; rw [hv, if_pos rfl, HL.out, if_neg hn, hf]; rfl
  have e2 : apdH host rs r = host := by unfold apdH; rw [e1, if_pos rfl]
  have e3 : apdL host rs r = rs ++ [r] := by unfold apdL; rw [e1, if_pos rfl]
  rw [e1, e2, e3]
  have HF := Lib.hid hf
  have HN := Lib.hid hn
  clear hv e1 e2 e3 hno hf hn
  go_enter Tryd.func25, Tryd.ntmps25
  go_upto_region 1 with fail
  generalize ((w.alloc (.cells #[.int .i64 host, .slice a n c] 24)).alloc (.cells #[.slice a2 n2 c2] 66)).alloc (.cells #[.int .i64 0, .slice none 0 0] 24) = V at *
  generalize w.heap.size + 1 + 1 = b3 at *
  have c0 := hC0.c0
  have c1 := hC0.c1
  have cl := hC0.lt
  go_wp2_with fail
  refine HC.out.mono ?_
  rintro e w1 ⟨rfl, hE1⟩
  have hE2 := hE0.trans hE1
  have hC1 := hC0.ext hE1
  have hR1 : Boxed w1 (w.heap.size + 1) 66 _ := hR0.kept (grownBy_of_ext hE1) (by simp)
  have hT1 := hT0.ext hE1
  clear c0 c1 cl hC0 hR0 hT0 hE0 hE1
  have c0 := hC1.c0
  have c1 := hC1.c1
  have cl := hC1.lt
  go_upto_region 5 with fail
  have hg := @grow_cell
  have c2r := hR1.cell
  have hlr := hR1.lt
  have hh := Lib.hid (fun d os => headf_any a n c rs (grow (redrawn w1 d) os) ((h1.ext hE2).ext (ext_grow w1 d os)) HS.out (TB.ext HT.out (hE2.trans (ext_grow w1 d os))))
  have hfit := fun d os => fits_any a2 n2 c2 r host ((n : Int) + 1) (headF rs) hho hwn hrng (grow (redrawn w1 d) os) ((h2.ext hE2).ext (ext_grow w1 d os)) (TB.ext HT.out (hE2.trans (ext_grow w1 d os)))
  rw [HF.out] at hfit
  have hft := Lib.hid hfit
  clear hfit
  refine region_ext (by kernel_rfl) (by kernel_rfl) ?_
  repeat (go_big_quiet_step (first | (go_at_call 54; exact Calls.regrown_of (hh.out _ _)) | (go_at_call 53; exact Calls.regrown_of (hft.out _ _))))
  refine wpQuiet_nil ?_
  intro w2 hE'
  have hE3 := hE2.trans hE'
  have hC2 := hC1.ext hE'
  have hR2 : Boxed w2 (w.heap.size + 1) 66 _ := hR1.kept (grownBy_of_ext hE') (by simp)
  have hT2 := hT1.ext hE'
  clear hg hwr c0 c1 c2r hh hft hE2 hE' hC1 hR1 hT1 cl hlr
  go_upto_region 7 with fail
  have c0 := hC2.c0
  have c1 := hC2.c1
  have c2r := hR2.cell
  have e0 : w2.drew.cell? ⟨w.heap.size, 0, none⟩ = some (.int .i64 host) := by simpa using c0
  have e1 : w2.drew.cell? ⟨w.heap.size, 1, none⟩ = some (.slice a n c) := by simpa using c1
  have e2 : w2.drew.cell? ⟨w.heap.size + 1, 0, none⟩ = some (.slice a2 n2 c2) := by simpa using c2r
  have hE3d : Ext w w2.drew := hE3.drew
  have hTd : ChB w2.drew b3 0 none 0 0 := hT2
  have hl3 := hT2.lt
  have hl2 := hR2.lt
  have hd4 : b3 < w2.drew.heap.size := hl3
  have hd2 : w.heap.size < w2.drew.heap.size := Nat.lt_of_succ_lt hl2
  have hd3 : w.heap.size + 1 < w2.drew.heap.size := hl2
  have hm1 : n + 1 ≤ maxLen := by unfold maxLen; omega
  have hm2 : (n + 1) * 24 ≤ 140737488355328 := by omega
  have hm3 : n2 ≤ 17592186044416 := by omega
  clear c0 c1 c2r
  go_region_held3 (fun w' => w'.cell? ⟨w.heap.size, 0, none⟩ = some (.int .i64 host) ∧ w'.cell? ⟨w.heap.size, 1, none⟩ = some (.slice a n c) ∧ w'.cell? ⟨w.heap.size + 1, 0, none⟩ = some (.slice a2 n2 c2))
    (exact ⟨by assumption, by assumption, by assumption⟩)
    (first
      | (go_at_call 55
         refine (cloneRs_any a n c rs _ (h1.ext hE3d) (by omega)).mono ?_
         rintro e w3 ⟨a3, c3, rfl, ho3, hE4⟩
         have d0 := hE4.cell e0
         have d1 := hE4.cell e1
         have d2 := hE4.cell e2)
      | (go_at_call 52
         refine (cloneR_any a2 n2 c2 r _ (h2.ext (hE3d.trans hE4)) (by omega)).mono ?_
         rintro e w4 ⟨a4, c4, rfl, hr4, hE5⟩
         have ho4 := ho3.ext hE5
         have k0 := hE5.cell d0
         have k1 := hE5.cell d1
         have k2 := hE5.cell d2
         have m0 := ((Ext.refl w4).alloc (.cells #[.slice a4 n2 c4] 66)).cell k0
         have m1 := ((Ext.refl w4).alloc (.cells #[.slice a4 n2 c4] 66)).cell k1
         have m2 := ((Ext.refl w4).alloc (.cells #[.slice a4 n2 c4] 66)).cell k2)
      | (refine stepRss el_rd rfl _ _ rfl w4 w2.drew.heap.size _ _ _ rs rfl ho4 a4 n2 c4 r (hr4.rw hm3 h2.wf) (clone_apart ho3 hr4) rfl (Nat.le_trans hE4.sz hE5.sz) hm1 hm2 ?_
         intro g cap w5 ho5 hB5
         have p0 := (Below.cell hB5 (p := ⟨w.heap.size, 0, none⟩) hd2).trans k0
         have p1 := (Below.cell hB5 (p := ⟨w.heap.size, 1, none⟩) hd2).trans k1
         have p2 := (Below.cell hB5 (p := ⟨w.heap.size + 1, 0, none⟩) hd3).trans k2
         have hT5 : ChB w5 b3 0 none 0 0 := (Below.block hB5 b3 hd4).trans ((((hE4.trans hE5).block b3 hd4)).trans hTd)
         have f0 := free_of_block hT5 0
         have f1 := free_of_block hT5 1
         have t0 := hT5.c0
         have t1 := hT5.c1
         have q0 := (World.cell?_setCell_other (w5.setCell ⟨b3, 0, none⟩ (.int .i64 host)) ⟨b3, 1, none⟩ ⟨w.heap.size, 0, none⟩ (.slice (some ⟨g, 0, none⟩) (n + 1) cap) (by simp <;> omega)).trans ((World.cell?_setCell_other w5 ⟨b3, 0, none⟩ ⟨w.heap.size, 0, none⟩ (.int .i64 host) (by simp <;> omega)).trans p0)
         have q1 := (World.cell?_setCell_other (w5.setCell ⟨b3, 0, none⟩ (.int .i64 host)) ⟨b3, 1, none⟩ ⟨w.heap.size, 1, none⟩ (.slice (some ⟨g, 0, none⟩) (n + 1) cap) (by simp <;> omega)).trans ((World.cell?_setCell_other w5 ⟨b3, 0, none⟩ ⟨w.heap.size, 1, none⟩ (.int .i64 host) (by simp <;> omega)).trans p1)
         have q2 := (World.cell?_setCell_other (w5.setCell ⟨b3, 0, none⟩ (.int .i64 host)) ⟨b3, 1, none⟩ ⟨w.heap.size + 1, 0, none⟩ (.slice (some ⟨g, 0, none⟩) (n + 1) cap) (by simp <;> omega)).trans ((World.cell?_setCell_other w5 ⟨b3, 0, none⟩ ⟨w.heap.size + 1, 0, none⟩ (.int .i64 host) (by simp <;> omega)).trans p2)))
  have hb3 : b3 < w2.drew.heap.size := hd4
  have hT6 := hT5.stored host (some ⟨g, 0, none⟩) (n + 1) cap
  have hg := ho5.ge
  have ho6 := ((ho5.setCh hT5 (by omega) 0 (.int .i64 host)).setCh (heap_setCell_same _ b3 0 _ _ _ hT5) (by omega) 1 (.slice (some ⟨g, 0, none⟩) (n + 1) cap))
  have hE5' : Ext w w5 := Below.trans ((hE3d.trans hE4).trans hE5) (Below.mono hB5 hE3d.sz)
  have hE6 := (hE5'.setCell (p := ⟨b3, 0, none⟩) hle1 (.int .i64 host)).setCell (p := ⟨b3, 1, none⟩) hle1 (.slice (some ⟨g, 0, none⟩) (n + 1) cap)
  go_wp2_with fail
  exact bodyPost_ret (res_append _ b3 host (some ⟨g, 0, none⟩) (n + 1) cap 0 _ (by rfl) (by rfl) hT6) rfl ⟨_, n + 1, cap, rfl, ho6.mono hE3d.sz, by omega, hE6⟩
end Go.Proofs.YtdmfdimhjemngaaDoor

/-
  A chain with a further round, by the reference; walked.
-/
namespace Go.Proofs.YtdmfdimhjemngaaDoor
open Go.RowKit Go.Sort Go.Shelf
set_option linter.unusedSimpArgs false
set_option linter.unusedVariables false
set_option maxRecDepth 100000

theorem OwRs.setBelow {T : TypeId} {base : Nat} {w : World} {sa : Option Addr} {n c : Nat} {xss : List (List Rp)} (h : OwRs T base w sa n c xss) {b : Nat} {v0 v1 : Value} {t : TypeId} (hC : w.heap[b]? = some (.cells #[v0, v1] t (0, 0))) (hlt : b < base) (j : Nat) (v : Value) :
    OwRs T base (w.setCell ⟨b, j, none⟩ v) sa n c xss := by
  obtain ⟨h0, vs, h1, h2⟩ := h
  refine ⟨h0, vs, World.ownsRow.kept (row := some b) h1 ⟨rfl, rfl, rfl, (KeepsOthers.setCell w _ _).size, fun k hk hkb => heap_setCell_other w ⟨b, j, none⟩ k v (fun e => hkb (by rw [e]))⟩ (.inr (fun e => ?_)), fun i hi => ?_⟩
  · have := (h1.lt b e).1; omega
  obtain ⟨a', n', c', h3, h4, h5⟩ := h2 i hi
  exact ⟨a', n', c', h3, h4.below (fun b' off ha hn => heap_setCell_other w ⟨b, j, none⟩ b' v (h4.not_ch hC b' off ha hn)), h5⟩

/-- The rounds of a chain put behind none. -/
theorem appAll {P : Program} {T T1 : TypeId} {z : Value} (hE : ElS P T T1 z 1 24) {ops : Array Oper} {rest : List Oper} {o : Oper} {a : Act} {Q : Exit → Act → World → Prop} (hgd : o.guard = none) (s x : Operand)
    (ho : o.op = .call { callee := .builtin .append, args := #[s, x], argTypes := #[T, T] })
    (w : World) (hs : a.eval s = .slice none 0 0) (ta : Option Addr) (m tc : Nat) (rs : List (List Rp)) (hx : a.eval x = .slice ta m tc) (ht : Rws w ta m tc rs) (hm : m ≤ 1000)
    (h : ∀ a' cap w', OwRs T1 w.heap.size w' a' m cap rs → Ext w w' → wpList P ops Q rest (a.put o.dst (.slice a' m cap)) w') :
    wpList P ops Q (o :: rest) a w := by
  rcases Nat.eq_zero_or_pos m with h0 | h0
  · subst h0
    obtain rfl := ht.isnil
    exact append_none hE hgd s x ho w w.heap.size none 0 hs (OwRs.nil _ _ _) ta tc hx (Nat.le_refl _) h
  · obtain ⟨b, off, rfl, _⟩ := ht.at h0
    obtain ⟨vs, hvl, hvr, hvi⟩ := ht.vals
    refine appRss hE hgd s x ho w w.heap.size none 0 0 [] hs (OwRs.nil _ _ _) b off m tc rs vs hx hvl ht.hlen hvr (fun i hi => ?_) h0 (Nat.le_refl _) (by unfold maxLen; omega) (by omega) ?_
    · obtain ⟨a1, n1, c1, g1, g2⟩ := hvi i hi
      exact ⟨a1, n1, c1, g1, g2, fun _ _ _ _ e => by cases e⟩
    · intro g cap w' h2 h3
      simp only [Nat.zero_add, List.nil_append] at h2 ⊢
      exact h _ cap w' h2 h3
/-- One round put behind rounds of the call's own. -/
theorem appOne {P : Program} {T T1 : TypeId} {z : Value} (hE : ElS P T T1 z 1 24) {ops : Array Oper} {rest : List Oper} {o : Oper} {a : Act} {Q : Exit → Act → World → Prop} (hgd : o.guard = none) (s x : Operand)
    (ho : o.op = .call { callee := .builtin .append, args := #[s, x], argTypes := #[T, T] })
    (w : World) (base : Nat) (sa : Option Addr) (n c : Nat) (xss : List (List Rp)) (hs : a.eval s = .slice sa n c) (hown : OwRs T1 base w sa n c xss)
    (la : Option Addr) (ln lc : Nat) (ys : List Rp) (hl : Rw w la ln lc ys) (hne : ∀ b off, la = some ⟨b, off, none⟩ → 0 < ln → sa ≠ some ⟨b, 0, none⟩)
    (hx : a.eval x = .slice (some ⟨w.heap.size, 0, none⟩) 1 1) (hbase : base ≤ w.heap.size) (h63 : n + 1 ≤ maxLen) (hbytes : (n + 1) * 24 ≤ 140737488355328)
    (h : ∀ g cap w', OwRs T1 base w' (some ⟨g, 0, none⟩) (n + 1) cap (xss ++ [ys]) → Below base w w' → wpList P ops Q rest (a.put o.dst (.slice (some ⟨g, 0, none⟩) (n + 1) cap)) w') :
    wpList P ops Q (o :: rest) a (w.alloc (.cells #[.slice la ln lc] T1)) := by
  have hE0 : Ext w (w.alloc (.cells #[.slice la ln lc] T1)) := (Ext.refl w).alloc _
  refine appRss hE hgd s x ho (w.alloc (.cells #[.slice la ln lc] T1)) base sa n c xss hs (hown.ext hE0) w.heap.size 0 1 1 [ys] [.slice la ln lc] hx rfl rfl ?_ (fun i hi => ?_) (by omega) (by simp; omega) h63 hbytes ?_
  · intro j v hv
    rw [cell_of_row (w.alloc (.cells #[.slice la ln lc] T1)) w.heap.size (0 + j) _ T1 (0, 0) (World.alloc_heap_new w _), ← Array.getElem?_toList, Nat.zero_add]
    exact hv
  · obtain rfl : i = 0 := by omega
    exact ⟨la, ln, lc, rfl, hl.ext hE0, hne⟩
  · intro g cap w' h2 h3
    exact h g cap w' h2 (Below.trans ((Below.refl base w).alloc hbase _) h3)

end Go.Proofs.YtdmfdimhjemngaaDoor
