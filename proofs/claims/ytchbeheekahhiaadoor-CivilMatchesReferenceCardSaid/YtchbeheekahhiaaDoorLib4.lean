/-
  A range over a function whose iterator keeps a number of its own in a variable that it has captured (block Bp), and whose body never leaves the loop.
-/
import Derived.Test.YtchbeheekahhiaaDoorLib3
namespace Go.Proofs.YtchbeheekahhiaaDoor
open Go.RowKit Go.Sort
set_option linter.unusedSimpArgs false
set_option linter.unusedVariables false
set_option maxRecDepth 100000

/-- The iterator's contract: it may write its own variable; the rounds leave that as it is. -/
def SeqP {α : Type} (F : Fence) (n : Nat) (P : Program) (g : Nat) (lb : Array Value) (enc : α → Value) (Bp : Nat) (t : TypeId) (S : List α → Prop) (N : Nat) (v0 : Value) : Prop :=
  ∀ (l : Nat) (J : List α → World → Prop) (W : World),
    (∀ pre A v v', J pre A → Boxed A Bp t v → J pre (A.setCell ⟨Bp, 0, none⟩ v')) →
    (∀ pre x A v, J pre A → Boxed A Bp t v → pre.length < N → YieldAt F (n - 1) P l #[enc x] A fun e W' => e = .returned (.bool true) ∧ J (pre ++ [x]) W' ∧ Boxed W' Bp t v) →
    J [] W → Boxed W Bp t v0 →
    CallsIn F n P g (#[.func (.yield l) #[] #[]] ++ lb) W fun e W' => (∃ v, e = .returned v) ∧ ∃ xs, S xs ∧ J xs W'

def bodyP {α : Type} (I : List α → World → Prop) (Bp : Nat) (t : TypeId) (v : Value) (xs : List α) (W : World) : Exit → Act → World → Prop
  | .normal, _, W' => KeepsOthers W W' ∧ I xs W' ∧ Boxed W' Bp t v
  | _, _, _ => False

theorem wpIn_rangeP {α : Type} {F : Fence} {n : Nat} {P : Program} {g : Operand} {ps : Array Tmp} {assign body : Code} {Q : Exit → Act → World → Prop} {a : Act} {w : World}
    (hro : F.round = none) (h1 : 1 ≤ n) {gf : Nat} {lb : Array Value} (hg : a.eval g = .func (.func gf) #[] lb) (hFg : F.fn gf) (eg : ∀ args w, (callFunc gf args).run P w = .ok (.enter gf args) w)
    {enc : α → Value} {S : List α → Prop} {N Bp : Nat} {t : TypeId} {v0 : Value} (hseq : SeqP F (n - 1) P gf lb enc Bp t S N v0) (hps : ps.size = 1)
    (I : List α → World → Prop) (hI : OwnFrom w.heap.size I) (hIs : ∀ pre A v v', I pre A → Boxed A Bp t v → I pre (A.setCell ⟨Bp, 0, none⟩ v')) (h0 : I [] w) (hb0 : Boxed w Bp t v0) (a₁ : α → Act)
    (hassign : ∀ (l : Nat) (x : α) (W : World) (K : Act → World → Prop), K (a₁ x) W →
      assign.wpIn (F.inRound l) (n - 1 - 1) P (Exit.then K (fun _ _ _ => False)) { tmps := (ps.zip #[enc x]).foldl (fun t (p, v) => t.setIfInBounds p v) a.tmps, defers := [] } W)
    (hbody : ∀ (l : Nat) (pre : List α) (x : α) (v : Value) (W : World), I pre W → Boxed W Bp t v → pre.length < N → body.wpIn (F.inRound l) (n - 1 - 1) P (bodyP I Bp t v (pre ++ [x]) W) (a₁ x) W)
    (hdone : ∀ (D : Nat) (xs : List α) (W : World), w.heap.size ≤ D → S xs → I xs W → W.heap[D]? = some (.deferred (some [])) → Q .normal { a with defers := { target := .collected D, args := #[] } :: a.defers } W) :
    (Code.rangeFunc g ps assign body).wpIn F n P Q a w := by
  refine wpIn_rangeFunc ?_
  intro fn hfn
  rw [hro]
  let L := w.heap.size + 1
  let rec_ : LoopState → Loop := fun st => { state := st, pending := none, fn, tmps := a.tmps, params := ps, assign, body, defers := w.heap.size }
  obtain ⟨W1, hW1⟩ : ∃ W1, (w.alloc (.deferred (some []))).alloc (.loop (rec_ .ready)) = W1 := ⟨_, rfl⟩
  have hL1 : W1.heap[w.heap.size + 1]? = some (.loop (rec_ .ready)) := by
    rw [← hW1]; have := World.alloc_heap_new (w.alloc (.deferred (some []))) (.loop (rec_ .ready)); rwa [World.size_alloc] at this
  have hK1 : W1.heap[w.heap.size]? = some (.deferred (some [])) := by
    rw [← hW1]; exact (Below.heap_alloc _ _ _ (by simp)).trans (World.alloc_heap_new w _)
  have hI1 : I [] W1 := by rw [← hW1]; exact hI.alloc _ (hI.alloc _ h0)
  have hB1 : Boxed W1 Bp t v0 := by rw [← hW1]; exact (hb0.alloc _).alloc _
  refine ⟨w.heap.size + 1, [{ target := .collected w.heap.size, args := #[] }], W1, { target := .fn (.func gf) lb, args := #[.func (.yield (w.heap.size + 1)) #[] #[]] }, W1, gf,
    #[.func (.yield (w.heap.size + 1)) #[] #[]] ++ lb, W1, ?_, ?_, ?_, ?_, fun _ => h1, ?_⟩
  · rw [← hW1]; exact run_enterLoop_outer _ _ _ _ _
  · simp only [resolve, hg]
    simp [go_sem]
  · intro f' hf'; simp [Target.leads] at hf'; subst hf'; exact hFg
  · simp [invoke, go_sem, eg]
  · refine (hseq (w.heap.size + 1) (fun pre W => I pre W ∧ W.heap[w.heap.size + 1]? = some (.loop (rec_ .ready)) ∧ W.heap[w.heap.size]? = some (.deferred (some []))) W1 ?_ ?_ ⟨hI1, hL1, hK1⟩ hB1).mono ?_
    · rintro pre A v v' ⟨i1, i2, i3⟩ hb
      exact ⟨hIs pre A v v' i1 hb, (KeepsOthers.setCell A _ _).same _ _ i2 rfl, (KeepsOthers.setCell A _ _).same _ _ i3 rfl⟩
    · rintro pre x W v ⟨hi, hl, hk⟩ hb hlen
      have hlt : w.heap.size + 1 < W.heap.size := (Array.getElem?_eq_some_iff.1 hl).1
      have hy := run_yield (P := P) (args := #[enc x]) hl (by show _ = ps.size; rw [hps]; rfl)
      refine ⟨fn, _, assign, body, hy, roundIn_of_wpIn hfn (hassign _ x W _ ⟨_, run_beginRound hl rfl, ?_⟩)⟩
      have hl2 : (W.putObj (w.heap.size + 1) (.loop { rec_ .ready with state := .busy })).heap[w.heap.size + 1]? = some (.loop { rec_ .ready with state := .busy }) := World.putObj_heap_same hlt
      have hk2 : (W.putObj (w.heap.size + 1) (.loop { rec_ .ready with state := .busy })).heap[w.heap.size]? = some (.deferred (some [])) := (World.putObj_heap_other (by omega)).trans hk
      have hne : Bp ≠ w.heap.size + 1 := by
        intro e; rw [← e] at hl; have hb' : W.heap[Bp]? = some (.cells #[v] t (0, 0)) := hb; rw [hl] at hb'; cases hb'
      have hb2 : Boxed (W.putObj (w.heap.size + 1) (.loop { rec_ .ready with state := .busy })) Bp t v := (World.putObj_heap_other hne).trans hb
      refine wpIn_mono (hbody _ pre x v _ (hI.putObj _ hi (by omega) hl rfl) hb2 hlen) ?_
      rintro e a3 W3 hp
      cases e with
      | normal =>
        obtain ⟨hk3, hi3, hb3⟩ := hp
        have hl3 := hk3.same _ _ hl2 rfl
        have hlt3 := (Array.getElem?_eq_some_iff.1 hl3).1
        exact ⟨_, _, run_endRound (P := P) none hl3, rfl, ⟨hI.putObj _ hi3 (by omega) hl3 rfl, World.putObj_heap_same hlt3, (World.putObj_heap_other (by omega)).trans (hk3.same _ _ hk2 rfl)⟩, (World.putObj_heap_other hne).trans hb3⟩
      | ret => exact hp.elim
      | exit id => exact hp.elim
      | goto t => exact hp.elim
      | panic ch => exact hp.elim
      | outgrown => exact hp.elim
    · rintro e W2 ⟨⟨v, rfl⟩, xs, hS, hi, hl, hk⟩
      exact ⟨none, _, run_endLoop (P := P) hl (by simp [rec_]), hdone _ xs _ (Nat.le_refl _) hS (hI.putObj _ hi (by omega) hl rfl) ((World.putObj_heap_other (by omega)).trans hk)⟩

end Go.Proofs.YtchbeheekahhiaaDoor
