/-
  The iterator of package reclaim, walked. Written by wip/gen_qo.py.
-/
import Derived.Test.YtacicanjmleikaaQN
import Derived.Shelf.Abstract
namespace Go.Proofs.Ytacicanjmleikaa
open Go.RowKit Go.Sort Go.Shelf
set_option linter.unusedSimpArgs false
set_option linter.unusedVariables false
set_option maxRecDepth 100000

/-- The contract of an iterator that writes a variable of its own (block Bp), and lays new blocks. -/
def SeqW {α : Type} (F : Fence) (n : Nat) (P : Program) (g : Nat) (lb : Array Value) (enc : α → Value) (Bp : Nat) (t : TypeId) (C : World → Prop) (S : List α → Prop) (N : Nat) : Prop :=
  ∀ (l : Nat) (J : List α → World → Prop) (W : World),
    (∀ pre A v v', J pre A → Boxed A Bp t v → J pre (A.setCell ⟨Bp, 0, none⟩ v')) →
    (∀ pre A A', J pre A → Ext A A' → J pre A') →
    (∀ pre A, J pre A → C A) →
    (∀ pre x A v, J pre A → Boxed A Bp t v → pre.length < N → YieldAt F (n - 1) P l #[enc x] A fun e W' => e = .returned (.bool true) ∧ J (pre ++ [x]) W' ∧ Boxed W' Bp t v) →
    J [] W → (∃ v, Boxed W Bp t v) →
    CallsIn F n P g (#[.func (.yield l) #[] #[]] ++ lb) W fun e W' => (∃ v, e = .returned v) ∧ ∃ xs, S xs ∧ J xs W'

theorem wpIn_rangeW {α : Type} {F : Fence} {n : Nat} {P : Program} {g : Operand} {ps : Array Tmp} {assign body : Code} {Q : Exit → Act → World → Prop} {a : Act} {w : World}
    (hro : F.round = none) (h1 : 1 ≤ n) {gf : Nat} {lb : Array Value} (hg : a.eval g = .func (.func gf) #[] lb) (hFg : F.fn gf) (eg : ∀ args w, (callFunc gf args).run P w = .ok (.enter gf args) w)
    {enc : α → Value} {C : World → Prop} {S : List α → Prop} {N Bp : Nat} {t : TypeId} {v0 : Value} (hseq : SeqW F (n - 1) P gf lb enc Bp t C S N) (hps : ps.size = 1)
    (I : List α → World → Prop) (hI : OwnFrom w.heap.size I) (hIs : ∀ pre A v v', I pre A → Boxed A Bp t v → I pre (A.setCell ⟨Bp, 0, none⟩ v')) (hIe : ∀ pre A A', I pre A → Ext A A' → I pre A') (hIC : ∀ pre A, I pre A → C A)
    (h0 : I [] w) (hb0 : Boxed w Bp t v0) (Ax : α → Act → World → Prop) (hAx : ∀ x a', OwnFrom w.heap.size (fun (_ : Unit) W => Ax x a' W))
    (hassign : ∀ (l : Nat) (pre : List α) (x : α) (W : World) (K : Act → World → Prop), I pre W → (∀ a' W', Ext W W' → Ax x a' W' → K a' W') →
      assign.wpIn (F.inRound l) (n - 1 - 1) P (Exit.then K (fun _ _ _ => False)) { tmps := (ps.zip #[enc x]).foldl (fun t (p, v) => t.setIfInBounds p v) a.tmps, defers := [] } W)
    (hbody : ∀ (l : Nat) (pre : List α) (x : α) (v : Value) (a' : Act) (W : World), I pre W → Boxed W Bp t v → Ax x a' W → pre.length < N → body.wpIn (F.inRound l) (n - 1 - 1) P (bodyP I Bp t v (pre ++ [x]) W) a' W)
    (hdone : ∀ (D : Nat) (xs : List α) (W : World), w.heap.size ≤ D → S xs → I xs W → W.heap[D]? = some (.deferred (some [])) → Q .normal { a with defers := { target := .collected D, args := #[] } :: a.defers } W) :
    (Code.rangeFunc g ps assign body).wpIn F n P Q a w := by
  refine wpIn_rangeFunc ?_
  intro fn hfn
  rw [hro]
  let L := w.heap.size + 1
  let rec_ : LoopState → Loop := fun st => { state := st, pending := none, fn, tmps := a.tmps, params := ps, assign, body, defers := w.heap.size }
  obtain ⟨W1, hW1⟩ : ∃ W1, (w.alloc (.deferred (some []))).alloc (.loop (rec_ .ready)) = W1 := ⟨_, rfl⟩
  have hL1 : W1.heap[w.heap.size + 1]? = some (.loop (rec_ .ready)) := by
    rw [← hW1]; have := World.alloc_heap_new (w.alloc (.deferred (some []))) (.loop (rec_ .ready)); rwa [World.size_alloc] at this
  have hK1 : W1.heap[w.heap.size]? = some (.deferred (some [])) := by
    rw [← hW1]; exact (Below.heap_alloc _ _ _ (by simp)).trans (World.alloc_heap_new w _)
  have hI1 : I [] W1 := by rw [← hW1]; exact hI.alloc _ (hI.alloc _ h0)
  have hB1 : Boxed W1 Bp t v0 := by rw [← hW1]; exact (hb0.alloc _).alloc _
  refine ⟨w.heap.size + 1, [{ target := .collected w.heap.size, args := #[] }], W1, { target := .fn (.func gf) lb, args := #[.func (.yield (w.heap.size + 1)) #[] #[]] }, W1, gf,
    #[.func (.yield (w.heap.size + 1)) #[] #[]] ++ lb, W1, ?_, ?_, ?_, ?_, fun _ => h1, ?_⟩
  · rw [← hW1]; exact run_enterLoop_outer _ _ _ _ _
  · simp only [resolve, hg]
    simp [go_sem]
  · intro f' hf'; simp [Target.leads] at hf'; subst hf'; exact hFg
  · simp [invoke, go_sem, eg]
  · refine (hseq (w.heap.size + 1) (fun pre W => I pre W ∧ W.heap[w.heap.size + 1]? = some (.loop (rec_ .ready)) ∧ W.heap[w.heap.size]? = some (.deferred (some []))) W1 ?_ ?_ (fun pre A h => hIC pre A h.1) ?_ ⟨hI1, hL1, hK1⟩ ⟨_, hB1⟩).mono ?_
    · rintro pre A v v' ⟨i1, i2, i3⟩ hb
      exact ⟨hIs pre A v v' i1 hb, (KeepsOthers.setCell A _ _).same _ _ i2 rfl, (KeepsOthers.setCell A _ _).same _ _ i3 rfl⟩
    · rintro pre A A' ⟨i1, i2, i3⟩ hx
      exact ⟨hIe pre A A' i1 hx, (hx.block _ (Array.getElem?_eq_some_iff.1 i2).1).trans i2, (hx.block _ (Array.getElem?_eq_some_iff.1 i3).1).trans i3⟩
    · rintro pre x W v ⟨hi, hl, hk⟩ hb hlen
      have hy := run_yield (P := P) (args := #[enc x]) hl (by show _ = ps.size; rw [hps]; rfl)
      refine ⟨fn, _, assign, body, hy, roundIn_of_wpIn hfn (hassign _ pre x W _ hi (fun a' V hx hax => ⟨_, run_beginRound ((hx.block _ (Array.getElem?_eq_some_iff.1 hl).1).trans hl) rfl, ?_⟩))⟩
      replace hi := hIe pre W V hi hx
      replace hl := (hx.block _ (Array.getElem?_eq_some_iff.1 hl).1).trans hl
      replace hk := (hx.block _ (Array.getElem?_eq_some_iff.1 hk).1).trans hk
      have hbV : Boxed V Bp t v := (hx.block _ (Array.getElem?_eq_some_iff.1 (show W.heap[Bp]? = _ from hb)).1).trans hb
      have hlt : w.heap.size + 1 < V.heap.size := (Array.getElem?_eq_some_iff.1 hl).1
      have hl2 : (V.putObj (w.heap.size + 1) (.loop { rec_ .ready with state := .busy })).heap[w.heap.size + 1]? = some (.loop { rec_ .ready with state := .busy }) := World.putObj_heap_same hlt
      have hk2 : (V.putObj (w.heap.size + 1) (.loop { rec_ .ready with state := .busy })).heap[w.heap.size]? = some (.deferred (some [])) := (World.putObj_heap_other (by omega)).trans hk
      have hne : Bp ≠ w.heap.size + 1 := by
        intro e; rw [← e] at hl; have hb' : V.heap[Bp]? = some (.cells #[v] t (0, 0)) := hbV; rw [hl] at hb'; cases hb'
      have hb2 : Boxed (V.putObj (w.heap.size + 1) (.loop { rec_ .ready with state := .busy })) Bp t v := (World.putObj_heap_other hne).trans hbV
      refine wpIn_mono (hbody _ pre x v a' _ (hI.putObj _ hi (by omega) hl rfl) hb2 ((hAx x a').putObj (s := ()) _ hax (by omega) hl rfl) hlen) ?_
      rintro e a3 W3 hp
      cases e with
      | normal =>
        obtain ⟨hk3, hi3, hb3⟩ := hp
        have hl3 := hk3.same _ _ hl2 rfl
        have hlt3 := (Array.getElem?_eq_some_iff.1 hl3).1
        exact ⟨_, _, run_endRound (P := P) none hl3, rfl, ⟨hI.putObj _ hi3 (by omega) hl3 rfl, World.putObj_heap_same hlt3, (World.putObj_heap_other (by omega)).trans (hk3.same _ _ hk2 rfl)⟩, (World.putObj_heap_other hne).trans hb3⟩
      | ret => exact hp.elim
      | exit id => exact hp.elim
      | goto t => exact hp.elim
      | panic ch => exact hp.elim
      | outgrown => exact hp.elim
    · rintro e W2 ⟨⟨v, rfl⟩, xs, hS, hi, hl, hk⟩
      exact ⟨none, _, run_endLoop (P := P) hl (by simp [rec_]), hdone _ xs _ (Nat.le_refl _) hS (hI.putObj _ hi (by omega) hl rfl) ((World.putObj_heap_other (by omega)).trans hk)⟩

theorem covered_any (x : Vn) (kb : Nat) (key : Int) (w : World) (hb : Boxed w kb 3 (.int .i64 key)) :
    Calls Try.prog 50 #[valV x, .pointer (some ⟨kb, 0, none⟩)] w fun e w' => e = .returned (.bool (key == x.k)) ∧ ∃ V, Ext w V ∧ w' = V.setCell ⟨kb, 0, none⟩ (.int .i64 x.k) := by
  have hE : Ext w (w.alloc (.cells #[.int .i64 x.k, .int .i64 x.t, .int .i64 x.v, .bool x.g] 47)) := (Ext.refl w).alloc _
  unfold valV
  have hb2 := hb.alloc (.cells #[.int .i64 x.k, .int .i64 x.t, .int .i64 x.v, .bool x.g] 47)
  have hc := hb2.cell
  have hf := hb2.frozen
  have hl := hb.lt
  have hx := Bk.new w 47 #[.int .i64 x.k, .int .i64 x.t, .int .i64 x.v, .bool x.g]
  have c0 := hx.c 0 _ rfl
  go_enter Try.func50, Try.ntmps50
  go_upto_region 1 with fail
  generalize w.alloc (.cells #[.int .i64 x.k, .int .i64 x.t, .int .i64 x.v, .bool x.g] 47) = V at *
  go_wp2_with fail
  go_ret
  exact ⟨rfl, V, hE, rfl⟩

/-- What the iterator has captured, and the store that it reads. -/
structure CapS (Bs Bh Bc kb : Nat) (a : Option Addr) (m c : Nat) (h : Int) (w0 A : World) : Prop where
  s : Boxed A Bs 33 (.slice a m c)
  h : Boxed A Bh 3 (.int .i64 h)
  c : Boxed A Bc 89 (.func (.func 50) #[] #[.pointer (some ⟨kb, 0, none⟩)])
  e : Ext w0 A

theorem recStep_le {h : Int} {s : Int × List Vn} {x : Vn} (hx : x.t ≤ h) : recStep h s x = (x.k, if (s.1 == x.k) = true ∨ x.g = true then s.2 else s.2 ++ [x]) := by
  unfold recStep; rw [if_pos hx]; simp
theorem recStep_gt {h : Int} {s : Int × List Vn} {x : Vn} (hx : ¬ x.t ≤ h) : recStep h s x = (s.1, s.2 ++ [x]) := by
  unfold recStep; rw [if_neg hx]
theorem recStep_len (h : Int) (s : Int × List Vn) (x : Vn) : (recStep h s x).2.length ≤ s.2.length + 1 := by
  unfold recStep
  split
  · split <;> simp
  · simp
theorem recTo_len (l : List Vn) (h : Int) : ∀ i, i ≤ l.length → (recTo l h i).2.length ≤ i
  | 0, _ => by rw [recTo_zero]; simp
  | i + 1, hi => by
    rw [recTo_succ (by omega)]
    have h1 := recTo_len l h i (by omega)
    have h2 := recStep_len h (recTo l h i) (nthR l (l.length - 1 - i))
    omega

set_option maxHeartbeats 4000000 in
theorem staying2_in (n : Nat) (hn : 3 ≤ n) (Bs Bh Bc kb : Nat) (a : Option Addr) (m c : Nat) (l : List Vn) (h : Int) (w0 : World) (h1 : Rw w0 a m c l) (hm : m ≤ 4000) :
    SeqW Fence.wide n Try.prog 51 #[.pointer (some ⟨kb, 0, none⟩), .pointer (some ⟨Bs, 0, none⟩), .pointer (some ⟨Bh, 0, none⟩), .pointer (some ⟨Bc, 0, none⟩)] valV kb 3 (CapS Bs Bh Bc kb a m c h w0) (fun xs => xs = (recTo l h l.length).2) l.length := by
  intro lp J W hJs hJe hJC hY hJ0 hb0
  obtain ⟨v0, hb0⟩ := hb0
  have bd := h1.bd
  have HL := Lib.hid h1.hlen
  have HR0 : Hid (recTo l h 0 = (0, [])) := Lib.hid (recTo_zero l h)
  have k0 := hb0.cell
  have kf := hb0.frozen
  have kl := hb0.lt
  have hC0 := hJC _ _ (hJs _ _ _ (.int .i64 0) hJ0 hb0)
  have hs0 := hC0.s.cell
  have hbk := hb0.set (.int .i64 0)
  have hJk := hJs _ _ _ (.int .i64 0) hJ0 hb0
  refine callsIn_of_wp Try.func51 rfl trivial ?_ rfl
  simp only [Try.ntmps51, List.size_toArray, List.length_cons, List.length_nil, Nat.reduceAdd, Nat.reduceSub, Array.replicate_succ, Array.replicate_zero, List.push_toArray, List.append_toArray, List.nil_append, List.cons_append]
  gi_wp2
  gi_loopw [10] (fun i wr => ∃ (k : Nat) (key : Int) (pre : List Vn), k ≤ m ∧ i = .int .i64 k ∧ Hid (recTo l h k = (key, pre)) ∧ J pre wr ∧ Boxed wr kb 3 (.int .i64 key)) (fun i _ => m - (intOf i).toNat)
  case atStart => exact ⟨0, 0, [], by omega, rfl, HR0, hJk, hbk⟩
  case round =>
    clear hJk hbk hs0 hC0 k0 kf kl
    obtain ⟨k, key, pre, hk, rfl, HR, hJp, hbk⟩ := hrel
    by_cases hlt : k < m
    · obtain ⟨x1, o1, rfl, hc1⟩ := h1.at (by omega)
      have hcap := hJC _ _ hJp
      have hr := rangeAt_ext (hc1 (m - 1 - k) (by omega)) hcap.e
      rw [sz_vn] at hr
      have HS : Hid (recTo l h (k + 1) = recStep h (recTo l h k) (nthR l (m - 1 - k))) := Lib.hid (by rw [recTo_succ (by rw [HL.out]; exact hlt), HL.out])
      have hlen : pre.length < l.length := by
        have := recTo_len l h k (by rw [HL.out]; omega)
        rw [HR.out] at this
        simp only at this
        rw [HL.out]; omega
      have e1 : (((m - 1 - k : Nat) : Int)) = (m : Int) - 1 - k := by omega
      have e2 : ((m : Int) - 1 - k).toNat = m - 1 - k := by omega
      have e3 : (0 : Int) ≤ (m : Int) - 1 - k := by omega
      have e4 : (m : Int) - 1 - k < (m : Int) := by omega
      clear hc1
      generalize nthR l (m - 1 - k) = x at *
      obtain ⟨d0, d1, d2, d3⟩ := cells_vn hr
      clear hr
      have hall : Ext wr (wr.alloc (.cells #[.int .i64 x.k, .int .i64 x.t, .int .i64 x.v, .bool x.g] 47)) := (Ext.refl wr).alloc _
      have hJ1 := hJe _ _ _ hJp hall
      have hb1 := hbk.alloc (.cells #[.int .i64 x.k, .int .i64 x.t, .int .i64 x.v, .bool x.g] 47)
      have cs := hcap.s.cell
      have hcap1 := hJC _ _ hJ1
      have cs1 := hcap1.s.cell
      have ch1 := hcap1.h.cell
      have cc1 := hcap1.c.cell
      have hx := Bk.new wr 47 #[.int .i64 x.k, .int .i64 x.t, .int .i64 x.v, .bool x.g]
      have hxl := hbk.lt
      have hnk : wr.heap.size ≠ kb := by omega
      by_cases ht : x.t ≤ h
      · have HT := Lib.hid ht
        have hcv := covered_any x kb key _ hb1
        unfold valV at hcv
        have HCV := Lib.hid hcv
        clear hcv
        gi_wp2
        refine ⟨trivial, fun _ => by omega, ?_⟩
        refine (callsIn_wide.2 HCV.out).mono ?_
        rintro _ _ ⟨rfl, V, hxV, rfl⟩
        have hbV : Boxed V kb 3 (.int .i64 key) := (hxV.block _ hb1.lt).trans hb1
        have hJ2 := hJs _ _ _ (.int .i64 x.k) (hJe _ _ _ hJ1 hxV) hbV
        have hb2 := hbV.set (.int .i64 x.k)
        have hx2 := (hx.ext hxV).otherB (p := kb) (by omega) 0 (.int .i64 x.k)
        have q0 := hx2.c 0 _ rfl
        have q1 := hx2.c 1 _ rfl
        have q2 := hx2.c 2 _ rfl
        have q3 := hx2.c 3 _ rfl
        clear cs cs1 ch1 cc1 hcap hcap1 hx d0 d1 d2 d3 hb1 hJ1 ht hall hbk
        generalize V.setCell ⟨kb, 0, none⟩ (.int .i64 x.k) = V2 at *
        clear hbV hxV HCV
        cases hq : (key == x.k) with
        | true =>
          have HP : Hid ((key == x.k) = true ∨ x.g = true) := Lib.hid (.inl hq)
          clear hq
          gi_wp2
          go_roundw
          case rel => exact ⟨k + 1, x.k, pre, by omega, by go_num, Lib.hid (by rw [HS.out, HR.out, recStep_le HT.out, if_pos HP.out]), hJ2, hb2⟩
          case measure => simp [intOf]; omega
        | false =>
          have HQ := Lib.hid hq
          clear hq
          obtain ⟨xk, xt, xv, xg⟩ := x
          simp only at *
          cases xg with
          | true =>
            have HP : Hid ((key == xk) = true ∨ true = true) := Lib.hid (.inr rfl)
            gi_wp2
            go_roundw
            case rel => exact ⟨k + 1, xk, pre, by omega, by go_num, Lib.hid (by rw [HS.out, HR.out, recStep_le HT.out, if_pos HP.out]), hJ2, hb2⟩
            case measure => simp [intOf]; omega
          | false =>
            have HN : Hid (¬ ((key == xk) = true ∨ false = true)) := Lib.hid (by rw [HQ.out]; simp)
            obtain ⟨fn, tmps, assign, body, hy, hRd⟩ := hY pre ⟨xk, xt, xv, false⟩ _ _ hJ2 hb2 hlen
            unfold valV at hy
            gi_wp2
            refine ⟨fun _ => by omega, ?_⟩
            refine hRd.mono ?_
            rintro e W3 ⟨rfl, hJ3, hb3⟩
            gi_wp2
            go_roundw
            case rel => exact ⟨k + 1, xk, pre ++ [⟨xk, xt, xv, false⟩], by omega, by go_num, Lib.hid (by rw [HS.out, HR.out, recStep_le HT.out, if_neg HN.out]), hJ3, hb3⟩
            case measure => simp [intOf]; omega
      · have ht2 : ¬ (x.t ≤ h) := ht
        have HT := Lib.hid ht
        clear ht
        obtain ⟨fn, tmps, assign, body, hy, hRd⟩ := hY pre x _ _ hJ1 hb1 hlen
        unfold valV at hy
        gi_wp2
        refine ⟨fun f h => by (cases h), ?_⟩
        gi_wp2
        refine ⟨fun _ => by omega, ?_⟩
        refine hRd.mono ?_
        rintro e W3 ⟨rfl, hJ3, hb3⟩
        gi_wp2
        go_roundw
        case rel => exact ⟨k + 1, key, pre ++ [x], by omega, by go_num, Lib.hid (by rw [HS.out, HR.out, recStep_gt (by have := HT.out; omega)]), hJ3, hb3⟩
        case measure => simp [intOf]; omega
    · obtain rfl : k = m := by omega
      gi_wp2
      go_end0
      exact ⟨⟨_, rfl⟩, pre, by rw [HL.out, HR.out], hJp⟩
end Go.Proofs.Ytacicanjmleikaa
