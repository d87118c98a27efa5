/-
  A region that draws its order, that reads, calls what leaves all as it was, makes ONE new variable at whatever moment, and ends with what waits for all of that.
-/
import Derived.Test.YtchbeheekahhiaaDoorLib8
namespace Go.Proofs.YtchbeheekahhiaaDoor
open Go.RowKit Go.Sort
set_option linter.unusedSimpArgs false
set_option linter.unusedVariables false

section
variable {P : Program} {ops : Array Oper} {md : Region.Mode} {w : World}

def calmUpon (P : Program) (W : World) (v : Value) : Result Next → Prop
  | .ok (.value u) w' => w' = W ∧ u = v
  | .ok .skip w' => w' = W ∧ v = undef
  | .ok (.enter f args) w' => w' = W ∧ Calls P f args W (fun e w'' => e = .returned v ∧ Ext W w'')
  | _ => False

def calmAt (P : Program) (o : Oper) (a : Act) (w : World) (v : Value) : Prop := ∀ W, Ext w W → calmUpon P W v ((execOp a.eval o).run P W)

/-- One operation that is calm in every world that has grown. -/
def calm (P : Program) (o : Oper) (a : Act) (w : World) (K : Act → Prop) : Prop := ∃ v, calmAt P o a w v ∧ K (a.put o.dst v)

def wpCalm (P : Program) (ops : Array Oper) (w : World) (Q : Act → Prop) : List Oper → Act → Prop
  | [], a => Q a
  | o :: rest, a => if Region.wanted o (yielded ops a.tmps) then calm P o a w (wpCalm P ops w Q rest) else wpCalm P ops w Q rest (a.put o.dst undef)

def cOp (P : Program) (ops : Array Oper) (w : World) (i : Nat) (K : Act → Prop) (a : Act) : Prop :=
  match ops[i]? with
  | none => K a
  | some o => if Region.wanted o (yielded ops a.tmps) then calm P o a w K else K (a.put o.dst undef)

theorem cOp_mono {i : Nat} {a : Act} {K K' : Act → Prop} (h : ∀ a, K a → K' a) (hh : cOp P ops w i K a) : cOp P ops w i K' a := by
  unfold cOp at *
  split
  · exact h _ (by simpa [*] using hh)
  · rename_i o ho
    simp only [ho] at hh
    split
    · rename_i hw; simp only [hw, if_true] at hh; obtain ⟨v, h1, h2⟩ := hh; exact ⟨v, h1, h _ h2⟩
    · rename_i hw; simp only [hw] at hh; exact h _ hh

/-- The worlds before and behind the making of the new variable. -/
def Made (w : World) (zs : Array Value) (T : TypeId) : Option Nat → World → Prop
  | none, W => Ext w W
  | some b, W => Ext w W ∧ w.heap.size ≤ b ∧ W.heap[b]? = some (.cells zs T (0, 0))

theorem Made.ext {zs : Array Value} {T : TypeId} {B : Option Nat} {W W' : World} (h : Made w zs T B W) (he : Ext W W') : Made w zs T B W' := by
  cases B with
  | none => exact Ext.trans h he
  | some b =>
    obtain ⟨h1, h2, h3⟩ := h
    exact ⟨h1.trans he, h2, (he.block b (Array.getElem?_eq_some_iff.1 h3).1).trans h3⟩
theorem Made.old {zs : Array Value} {T : TypeId} {B : Option Nat} {W : World} (h : Made w zs T B W) : Ext w W := by
  cases B with
  | none => exact h
  | some b => exact h.1

theorem wp_of_calm {o : Oper} {a : Act} {K : Act → Prop} {K' : Act → World → Prop} {Q' : Exit → Act → World → Prop} {zs : Array Value} {T : TypeId} {B : Option Nat} {W : World} (hW : Made w zs T B W)
    (h : ∀ a W', Made w zs T B W' → K a → K' a W') (hh : calm P o a w K) : o.wp P a W K' Q' := by
  obtain ⟨v, h1, h2⟩ := hh
  have h3 := h1 W hW.old
  unfold Oper.wp
  generalize (execOp a.eval o).run P W = r at *
  cases r with
  | ok n w' =>
    cases n <;> simp only [calmUpon] at h3 <;> simp only [Oper.upon]
    case value u =>
      obtain ⟨e1, e2⟩ := h3
      rw [e1, e2]
      exact h _ _ hW h2
    case skip =>
      obtain ⟨e1, e2⟩ := h3
      rw [e1, ← e2]
      exact h _ _ hW h2
    case enter f args =>
      obtain ⟨e1, hc⟩ := h3
      rw [e1]
      exact hc.mono fun e w'' ⟨he, hw''⟩ => by subst he; exact h _ _ (hW.ext hw'') h2
  | halt x w' => simp only [calmUpon] at h3

theorem wpOp_of_cOp {i : Nat} {a : Act} {K : Act → Prop} {K' : Act → World → Prop} {Q' : Exit → Act → World → Prop} {zs : Array Value} {T : TypeId} {B : Option Nat} {W : World} (hW : Made w zs T B W)
    (h : ∀ a W', Made w zs T B W' → K a → K' a W') (hh : cOp P ops w i K a) : wpOp P ops Q' i K' a W := by
  unfold cOp at hh
  unfold wpOp
  split
  · rename_i ho; simp only [ho] at hh; exact h _ _ hW hh
  · rename_i o ho
    simp only [ho] at hh
    split
    · rename_i hw; simp only [hw, if_true] at hh; exact .inl (wp_of_calm hW h hh)
    · rename_i hw; simp only [hw] at hh; exact h _ _ hW hh

def YieldsC (P : Program) (ops : Array Oper) (w : World) (o : Oper) (v : Value) (a : Act) : Prop :=
  (Region.wanted o (yielded ops a.tmps) = true ∧ calmAt P o a w v) ∨ (Region.wanted o (yielded ops a.tmps) = false ∧ v = undef)

theorem YieldsC.cOp {i : Nat} {o : Oper} {v : Value} {a : Act} (hi : ops[i]? = some o) (hy : YieldsC P ops w o v a) {K : Act → Prop} (h : K (a.put o.dst v)) : cOp P ops w i K a := by
  unfold Go.Proofs.YtchbeheekahhiaaDoor.cOp
  simp only [hi]
  rcases hy with ⟨hw, hv⟩ | ⟨hw, rfl⟩
  · simp only [hw, if_true]; exact ⟨v, hv, h⟩
  · simp only [hw, Bool.false_eq_true, if_false]; exact h

theorem YieldsC.of_same {o : Oper} {v : Value} {a a' : Act} (hy : YieldsC P ops w o v a) (he : execOp a'.eval o = execOp a.eval o)
    (hw : Region.wanted o (yielded ops a'.tmps) = Region.wanted o (yielded ops a.tmps)) : YieldsC P ops w o v a' := by
  unfold YieldsC calmAt at *
  rw [he, hw]
  exact hy

theorem yieldsC_of_cOp {i : Nat} {o : Oper} {a : Act} {K : Act → Prop} (hi : ops[i]? = some o) (h : cOp P ops w i K a) : ∃ v, YieldsC P ops w o v a ∧ K (a.put o.dst v) := by
  unfold cOp at h
  simp only [hi] at h
  by_cases hw : Region.wanted o (yielded ops a.tmps) = true
  · simp only [hw, if_true] at h
    obtain ⟨v, h1, h2⟩ := h
    exact ⟨v, .inl ⟨hw, h1⟩, h2⟩
  · simp only [hw] at h
    exact ⟨undef, .inr ⟨by simpa using hw, rfl⟩, h⟩

theorem cOp_put {j : Nat} {oi oj : Oper} {v : Value} (hj : ops[j]? = some oj) (hap : oi.apart ops oj = true)
    (hsi : ∀ cs b, oi.op ≠ .select cs b) (hsj : ∀ cs b, oj.op ≠ .select cs b) {K : Act → Prop} {a : Act}
    (hy : YieldsC P ops w oi v a) (h : cOp P ops w j K (a.put oi.dst v)) :
    cOp P ops w j (fun a' => YieldsC P ops w oi v a' ∧ K (a'.put oi.dst v)) a := by
  obtain ⟨h1, h2, h3⟩ := Oper.apart_spec hap
  have keep : ∀ (a : Act), YieldsC P ops w oi v a → ∀ u, YieldsC P ops w oi v (a.put oj.dst u) := fun a hy u =>
    hy.of_same (execOp_put oi hsi a oj.dst u h3) (wanted_put oi a oj.dst u h3)
  unfold cOp at *
  simp only [hj] at *
  rw [wanted_put oj a oi.dst v h1] at h
  split
  · rename_i hw
    simp only [hw, if_true] at h
    obtain ⟨u, hu, hn⟩ := h
    refine ⟨u, fun W hW => ?_, keep a hy u, by rw [← Act.put_comm a v u h2]; exact hn⟩
    have := hu W hW
    rwa [execOp_put oj hsj a oi.dst v h1] at this
  · rename_i hw
    simp only [hw] at h
    exact ⟨keep a hy _, by rw [← Act.put_comm a v undef h2]; exact h⟩

/-- Whatever order is picked, as far as the first N operations; operation p makes the variable. -/
def wpAnyLA (P : Program) (md : Region.Mode) (ops : Array Oper) (w : World) (N p : Nat) (dP : Option Nat) (L : Array Bool → Act → Option Nat → Prop) : Nat → Array Bool → Act → Option Nat → Prop
  | 0, listed, a, B => L listed a B
  | f + 1, listed, a, B => Region.ready md ops listed ≠ [] ∧ ∀ i ∈ Region.ready md ops listed, i < N ∧
      if i = p then ∀ b, wpAnyLA P md ops w N p dP L f (listed.setIfInBounds i true) (a.put dP (.pointer (some ⟨b, 0, none⟩))) (some b)
      else cOp P ops w i (fun a' => wpAnyLA P md ops w N p dP L f (listed.setIfInBounds i true) a' B) a

theorem wpAny_of_headA {N p g : Nat} {oP : Oper} {dP : Option Nat} {zs : Array Value} {T : TypeId} {L : Array Bool → Act → Option Nat → Prop} {Q' : Exit → Act → World → Prop} (hp : ops[p]? = some oP) (hdP : oP.dst = dP) (hgP : ∀ a : Act, Region.wanted oP (yielded ops a.tmps) = true)
    (hrun : ∀ (a : Act) (W : World), (execOp a.eval oP).run P W = .ok (.value (.pointer (some ⟨W.heap.size, 0, none⟩))) (W.alloc (.cells zs T)))
    (hL : ∀ listed a B W, Made w zs T B W → L listed a B → wpAny P md ops Q' g listed a W) :
    ∀ (f : Nat) (listed : Array Bool) (a : Act) (B : Option Nat) (W : World), Made w zs T B W → wpAnyLA P md ops w N p dP L f listed a B → wpAny P md ops Q' (f + g) listed a W
  | 0, listed, a, B, W, hW, h => by rw [Nat.zero_add]; exact hL _ _ _ _ hW h
  | f + 1, listed, a, B, W, hW, h => by
    rw [show f + 1 + g = (f + g) + 1 by omega]
    refine ⟨fun h0 => absurd h0 h.1, fun i hi => ?_⟩
    obtain ⟨_, h2⟩ := h.2 i hi
    by_cases hip : i = p
    · rw [if_pos hip] at h2
      subst hip
      have hm : Made w zs T (some W.heap.size) (W.alloc (.cells zs T)) := ⟨hW.old.alloc _, hW.old.sz, World.alloc_heap_new W _⟩
      have h3 := wpAny_of_headA hp hdP hgP hrun hL f _ _ _ _ hm (h2 W.heap.size)
      unfold wpOp
      simp only [hp]
      rw [if_pos (hgP a)]
      refine .inl ?_
      unfold Oper.wp
      rw [hrun]
      simp only [Oper.upon, hdP]
      exact h3
    · rw [if_neg hip] at h2
      exact wpOp_of_cOp hW (fun a' W' hW' h' => wpAny_of_headA hp hdP hgP hrun hL f _ a' B W' hW' h') h2

theorem wpAnyLA_first {N p i : Nat} {oi oP : Oper} {dP : Option Nat} {v : Value} {L : Array Bool → Act → Option Nat → Prop} (hp : ops[p]? = some oP) (hdP : oP.dst = dP) (hi : ops[i]? = some oi) (hsel : ∀ (j : Nat) (o : Oper) cs b, ops[j]? = some o → o.op ≠ .select cs b)
    (hs : Region.sinkB md ops N = true) (hc : Region.chainB md ops N = true) (hn : N < ops.size) (hin : i < N) (hip : i ≠ p)
    (hdone : ∀ listed a B, L listed a B → ∀ j ∈ Region.ready md ops listed, N ≤ j) :
    ∀ (f : Nat) (listed : Array Bool) (a : Act) (B : Option Nat), HeadInv md ops N listed →
      (∀ j oj, ops[j]? = some oj → j ≠ i → listed.getD j true = false → (∀ e ∈ oj.after, Region.binds md e = true → e.on ≠ i) → oi.apart ops oj = true) →
      i ∈ Region.ready md ops listed → YieldsC P ops w oi v a →
      wpAnyLA P md ops w N p dP L f (listed.setIfInBounds i true) (a.put oi.dst v) B → wpAnyLA P md ops w N p dP L (f + 1) listed a B := by
  intro f
  induction f with
  | zero =>
    intro listed a B inv _ hr hy H
    have hun := (mem_ready.1 hr).1
    refine ⟨fun h => (by rw [h] at hr; cases hr), fun j hj => ?_⟩
    have hjn : j < N := by
      rcases Nat.lt_or_ge j N with h | h
      · exact h
      · exact absurd hj (tail_waits hs hc hn inv _ i rfl hin hun j h)
    refine ⟨hjn, ?_⟩
    by_cases hji : j = i
    · subst hji; rw [if_neg hip]; exact hy.cOp hi H
    · have := hdone _ _ _ H j (ready_mono hj hji)
      omega
  | succ f ih =>
    intro listed a B inv hfree hr hy H
    have hun := (mem_ready.1 hr).1
    refine ⟨fun h => (by rw [h] at hr; cases hr), fun j hj => ?_⟩
    have hjn : j < N := by
      rcases Nat.lt_or_ge j N with h | h
      · exact h
      · exact absurd hj (tail_waits hs hc hn inv _ i rfl hin hun j h)
    refine ⟨hjn, ?_⟩
    by_cases hji : j = i
    · subst hji; rw [if_neg hip]; exact hy.cOp hi H
    · have h1 := (H.2 j (ready_mono hj hji)).2
      obtain ⟨hjun, oj, hoj, hall⟩ := mem_ready.1 hj
      have hnot : ∀ e ∈ oj.after, Region.binds md e = true → e.on ≠ i := fun e he hb heq => by
        have h1 := hall e he hb
        rw [heq, getD_both hun] at h1
        cases h1
      have hap := hfree j oj hoj hji hjun hnot
      have hfree' : ∀ k ok, ops[k]? = some ok → k ≠ i → (listed.setIfInBounds j true).getD k true = false →
          (∀ e ∈ ok.after, Region.binds md e = true → e.on ≠ i) → oi.apart ops ok = true := fun k ok hk hki hun hno => by
        refine hfree k ok hk hki ?_ hno
        by_cases hjk : j = k
        · subst hjk; exact hjun
        · rw [getD_set_ne true hjk] at hun; exact hun
      by_cases hjp : j = p
      · rw [if_pos hjp] at h1 ⊢
        subst hjp
        obtain rfl : oj = oP := Option.some.inj (hoj.symm.trans hp)
        obtain ⟨k1, k2, k3⟩ := Oper.apart_spec hap
        intro b
        refine ih _ _ _ (inv.set hj hjn) hfree' (ready_mono hr (Ne.symm hji)) (hdP ▸ hy.of_same (execOp_put oi (fun cs b => hsel i oi cs b hi) a oj.dst _ k3) (wanted_put oi a oj.dst _ k3)) ?_
        rw [Array.setIfInBounds_comm _ _ hji, ← hdP, ← Act.put_comm a v _ k2, hdP]
        exact h1 b
      · rw [if_neg hjp] at h1 ⊢
        have h2 := cOp_put hoj hap (fun cs b => hsel i oi cs b hi) (fun cs b => hsel j oj cs b hoj) hy h1
        refine cOp_mono (fun a' h3 => ih (listed.setIfInBounds j true) a' B (inv.set hj hjn) hfree' (ready_mono hr (Ne.symm hji)) h3.1 ?_) h2
        rw [Array.setIfInBounds_comm _ _ hji]
        exact h3.2

/-- The lexical order: n operations, then the making of the variable, then the forced end. -/
def lexHeadA (md : Region.Mode) (ops : Array Oper) (g : Nat) : Nat → Nat → Array Bool → Bool
  | 0, k, listed => decide (Region.ready md ops listed = [k]) && Region.seqB md ops g (k + 1) (listed.setIfInBounds k true)
  | f + 1, k, listed => (Region.ready md ops listed).contains k && Region.free md ops listed k && lexHeadA md ops g f (k + 1) (listed.setIfInBounds k true)

def lexTailA (md : Region.Mode) (ops : Array Oper) (n : Nat) : Bool :=
  Region.noSelect ops && decide (n + 1 < ops.size) && Region.sinkB md ops (n + 1) && Region.chainB md ops (n + 1) && lexHeadA md ops (ops.size - (n + 1)) n 0 (Array.replicate ops.size false)

theorem wpAnyLA_lex {n g : Nat} {oP : Oper} {dP : Option Nat} {Lq : Act → Prop} (hp : ops[n]? = some oP) (hdP : oP.dst = dP) (hsel : Region.noSelect ops = true) (hs : Region.sinkB md ops (n + 1) = true) (hc : Region.chainB md ops (n + 1) = true) (hn : n + 1 < ops.size) :
    ∀ (l : List Oper) (k : Nat) (listed : Array Bool) (a : Act), (∀ j, j < l.length → l[j]? = ops[k + j]?) → k + l.length = n → HeadInv md ops (n + 1) listed →
    lexHeadA md ops g l.length k listed = true → wpCalm P ops w Lq l a →
    wpAnyLA P md ops w (n + 1) n dP (fun listed' a' B => Region.seqB md ops g (n + 1) listed' = true ∧ ∃ b a0, B = some b ∧ a' = a0.put dP (.pointer (some ⟨b, 0, none⟩)) ∧ Lq a0) (l.length + 1) listed a none
  | [], k, listed, a, _, hk, _, hB, h => by
    have : k = n := by simpa using hk
    subst this
    simp only [List.length_nil, lexHeadA, Bool.and_eq_true, decide_eq_true_eq] at hB
    refine ⟨by rw [hB.1]; simp, fun i hi => ?_⟩
    rw [hB.1] at hi
    obtain rfl : i = k := by simpa using hi
    refine ⟨by omega, ?_⟩
    rw [if_pos rfl]
    exact fun b => ⟨hB.2, b, a, rfl, rfl, h⟩
  | o :: l, k, listed, a, hl, hk, inv, hB, h => by
    have h0 : ops[k]? = some o := by simpa using (hl 0 (by simp)).symm
    simp only [List.length_cons, lexHeadA, Bool.and_eq_true] at hB
    obtain ⟨⟨hr, hf⟩, hB'⟩ := hB
    have hkn : k < n := by simp only [List.length_cons] at hk; omega
    have hr' : k ∈ Region.ready md ops listed := by simpa using hr
    have hst : cOp P ops w k (wpCalm P ops w Lq l) a := by unfold cOp; simp only [h0]; exact h
    obtain ⟨v, hy, hK⟩ := yieldsC_of_cOp h0 hst
    exact wpAnyLA_first hp hdP h0 (Region.noSelect_spec hsel) hs hc hn (by omega) (by omega) (fun listed' a' B hL => seqB_ready hL.1) (l.length + 1) listed a none inv (Region.free_spec h0 hf) hr' hy
      (wpAnyLA_lex hp hdP hsel hs hc hn l (k + 1) _ _ (fun j hj => by have := hl (j + 1) (by simp; omega); simpa [Nat.add_assoc, Nat.add_comm 1 j] using this) (by simp only [List.length_cons] at hk; omega) (inv.set hr' (by omega)) hB' hK)

/-- A slot that is not written stays. -/
theorem wpQuiet_stays {C : World → Prop} {a' : Act} {d : Nat} : ∀ (l : List Oper) (a : Act), (∀ o ∈ l, o.dst ≠ some d) → wpQuiet P ops C (· = a') l a → a'.tmps[d]? = a.tmps[d]?
  | [], a, _, h => by have : a = a' := h; rw [this]
  | o :: rest, a, hd, h => by
    have h0 := hd o (by simp)
    have key : ∀ v, wpQuiet P ops C (· = a') rest (a.put o.dst v) → a'.tmps[d]? = a.tmps[d]? := fun v hv => by
      rw [wpQuiet_stays rest _ (fun o' ho' => hd o' (by simp [ho'])) hv]
      rcases hdst : o.dst with _ | x
      · rfl
      · have hx : x ≠ d := fun e => h0 (by rw [hdst, e])
        simp [Act.put, Array.getElem?_setIfInBounds, hx]
    unfold wpQuiet at h
    split at h
    · obtain ⟨v, _, h2⟩ := h; exact key v h2
    · exact key _ h

/-- Every operation writes a slot of its own. -/
def ownSlots (m : Nat) : List Oper → Bool
  | [] => true
  | o :: rest => (match o.dst with | some d => decide (d < m) && rest.all (fun o' => o'.dst != some d) | none => false) && ownSlots m rest

theorem put_size (a : Act) (d : Option Nat) (v : Value) : (a.put d v).tmps.size = a.tmps.size := by
  cases d <;> simp [Act.put]

theorem calm_of_quiet {a' : Act} : ∀ (l : List Oper) (a : Act), ownSlots a.tmps.size l = true →
    (∀ W0, Ext w W0 → wpQuiet P ops (fun w' => ∃ p : Regrown, w' = grow (redrawn W0 p.d) p.os) (· = a') l a) → wpCalm P ops w (· = a') l a
  | [], a, _, h => h w (Ext.refl w)
  | o :: rest, a, ho, h => by
    unfold ownSlots at ho
    rw [Bool.and_eq_true] at ho
    obtain ⟨ho1, ho2⟩ := ho
    rcases hdst : o.dst with _ | d
    · rw [hdst] at ho1; simp at ho1
    rw [hdst] at ho1
    simp only [Bool.and_eq_true, decide_eq_true_eq, List.all_eq_true, bne_iff_ne, ne_eq] at ho1
    obtain ⟨hd, hne⟩ := ho1
    have hval : ∀ (C : World → Prop) (v : Value), wpQuiet P ops C (· = a') rest (a.put o.dst v) → a'.tmps[d]? = some v := fun C v hv => by
      rw [wpQuiet_stays rest _ (fun o' ho' e => hne o' ho' e) hv, hdst]
      simp [Act.put, Array.getElem?_setIfInBounds, hd]
    by_cases hw : Region.wanted o (yielded ops a.tmps) = true
    · have h1 : ∀ W0, Ext w W0 → ∃ v, (∀ W, (∃ p : Regrown, W = grow (redrawn W0 p.d) p.os) → o.quietAt P a (fun w' => ∃ p : Regrown, w' = grow (redrawn W0 p.d) p.os) W v) ∧
          wpQuiet P ops (fun w' => ∃ p : Regrown, w' = grow (redrawn W0 p.d) p.os) (· = a') rest (a.put o.dst v) := fun W0 hW0 => by
        have := h W0 hW0
        unfold wpQuiet at this
        rw [if_pos hw] at this
        exact this
      obtain ⟨v, _, hv2⟩ := h1 w (Ext.refl w)
      have hv := hval _ v hv2
      have same : ∀ W0, Ext w W0 → (∀ W, (∃ p : Regrown, W = grow (redrawn W0 p.d) p.os) → o.quietAt P a (fun w' => ∃ p : Regrown, w' = grow (redrawn W0 p.d) p.os) W v) ∧
          wpQuiet P ops (fun w' => ∃ p : Regrown, w' = grow (redrawn W0 p.d) p.os) (· = a') rest (a.put o.dst v) := fun W0 hW0 => by
        obtain ⟨v', k1, k2⟩ := h1 W0 hW0
        have := hval _ v' k2
        rw [hv] at this
        obtain rfl := Option.some.inj this
        exact ⟨k1, k2⟩
      unfold wpCalm
      rw [if_pos hw]
      refine ⟨v, fun W hW => ?_, calm_of_quiet rest _ (by rw [put_size]; exact ho2) fun W0 hW0 => (same W0 hW0).2⟩
      have h5 := (same W hW).1 W ⟨⟨W.drawn, #[]⟩, by rw [grow_empty]; rfl⟩
      unfold Oper.quietAt at h5
      generalize (execOp a.eval o).run P W = r at *
      cases r with
      | ok n w' =>
        cases n <;> simp only [Oper.quietUpon] at h5 <;> simp only [calmUpon]
        case value u => exact h5
        case skip => exact h5
        case enter f args => exact ⟨h5.1, h5.2.mono fun e w'' ⟨he, p, hp⟩ => ⟨he, by rw [hp]; exact ext_grow W p.d p.os⟩⟩
      | halt x w' => simp only [Oper.quietUpon] at h5
    · unfold wpCalm
      rw [if_neg hw]
      refine calm_of_quiet rest _ (by rw [put_size]; exact ho2) fun W0 hW0 => ?_
      have := h W0 hW0
      unfold wpQuiet at this
      rw [if_neg hw] at this
      exact this

theorem region_new {id : Nat} {Q : Exit → Act → World → Prop} {a : Act} {l : List Oper} (n : Nat) (oP : Oper) (dP : Nat) (zs : Array Value) (T : TypeId) (m : Nat) (hm : P.follows .mixedOrders = true) (hB : lexTailA .any l.toArray n = true)
    (hp : l.toArray[n]? = some oP) (hdP : oP.dst = some dP) (hgP : ∀ a : Act, Region.wanted oP (yielded l.toArray a.tmps) = true)
    (hrun : ∀ (a : Act) (W : World), (execOp a.eval oP).run P W = .ok (.value (.pointer (some ⟨W.heap.size, 0, none⟩))) (W.alloc (.cells zs T)))
    (hsz : a.tmps.size = m) (hown : ownSlots m (l.take n) = true) {a' : Act}
    (hq : ∀ W0, Ext w W0 → wpQuiet P l.toArray (fun w' => ∃ p : Regrown, w' = grow (redrawn W0 p.d) p.os) (· = a') (l.take n) a)
    (h : ∀ b W, Ext w W → w.heap.size ≤ b → W.heap[b]? = some (.cells zs T (0, 0)) → wpList P l.toArray Q (l.drop (n + 1)) (a'.put (some dP) (.pointer (some ⟨b, 0, none⟩))) W) : (Code.region id l.toArray true).wp P Q a w := by
  simp only [lexTailA, Bool.and_eq_true, decide_eq_true_eq] at hB
  obtain ⟨⟨⟨⟨hsel, hn⟩, hs⟩, hc⟩, hlex⟩ := hB
  have hn' : n + 1 < l.length := by simpa using hn
  have htl : (l.take n).length = n := by simp; omega
  have hdl : (l.drop (n + 1)).length = l.toArray.size - (n + 1) := by simp
  have inv0 : HeadInv .any l.toArray (n + 1) (Array.replicate l.toArray.size false) :=
    ⟨by simp, fun j oj _ hl => (by rw [getD_replicate_false] at hl; cases hl), fun t _ ht => getD_in (by simpa using ht) (getD_replicate_false _ _)⟩
  have H := wpAnyLA_lex (md := .any) (g := l.toArray.size - (n + 1)) hp hdP hsel hs hc hn (l.take n) 0 _ a (fun j hj => by
    have hj' : j < n := by rw [htl] at hj; exact hj
    simp [hj']) (by simpa using htl) inv0 (by rw [htl]; exact hlex) (calm_of_quiet (w := w) (l.take n) a (by rw [hsz]; exact hown) hq)
  refine wp_region_any hm ?_
  have := wpAny_of_headA (Q' := Q) (g := l.toArray.size - (n + 1)) (zs := zs) (T := T) (w := w) (N := n + 1) (L := fun listed' a1 B => Region.seqB .any l.toArray (l.toArray.size - (n + 1)) (n + 1) listed' = true ∧ ∃ b a0, B = some b ∧ a1 = a0.put (some dP) (.pointer (some ⟨b, 0, none⟩)) ∧ a0 = a') hp hdP hgP hrun (fun listed a1 B W hW hL => by
    obtain ⟨hseq, b, a0, rfl, rfl, ha0⟩ := hL
    subst ha0
    obtain ⟨k1, k2, k3⟩ := hW
    have := wpAny_of_seq (md := .any) (Q' := Q) (l.drop (n + 1)) (n + 1) listed _ W (fun j => by simp [List.getElem?_drop]) (by rw [hdl]; exact hseq) (h b W k1 k2 k3)
    rwa [hdl] at this) _ _ _ none { w with drawn := w.drawn + 1 } ((Ext.refl w).drew) H
  rw [htl, show n + 1 + (l.toArray.size - (n + 1)) = l.toArray.size by omega] at this
  exact this

/-- For the walk: 'refine region_mk ..; apply Exists.intro; refine ⟨fun W0 hE0 => ?_, fun b W hE hb hblk => ?_⟩'. -/
theorem region_mk {id : Nat} {Q : Exit → Act → World → Prop} {a : Act} {l : List Oper} (n : Nat) (oP : Oper) (dP : Nat) (zs : Array Value) (T : TypeId) (m : Nat) (hm : P.follows .mixedOrders = true) (hB : lexTailA .any l.toArray n = true)
    (hp : l.toArray[n]? = some oP) (hdP : oP.dst = some dP) (hgP : ∀ a : Act, Region.wanted oP (yielded l.toArray a.tmps) = true)
    (hrun : ∀ (a : Act) (W : World), (execOp a.eval oP).run P W = .ok (.value (.pointer (some ⟨W.heap.size, 0, none⟩))) (W.alloc (.cells zs T)))
    (hsz : a.tmps.size = m) (hown : ownSlots m (l.take n) = true)
    (h : ∃ a' : Act, (∀ W0, Ext w W0 → wpQuiet P l.toArray (fun w' => ∃ p : Regrown, w' = grow (redrawn W0 p.d) p.os) (· = a') (l.take n) a) ∧
      ∀ b W, Ext w W → w.heap.size ≤ b → W.heap[b]? = some (.cells zs T (0, 0)) → wpList P l.toArray Q (l.drop (n + 1)) (a'.put (some dP) (.pointer (some ⟨b, 0, none⟩))) W) : (Code.region id l.toArray true).wp P Q a w := by
  obtain ⟨a', h1, h2⟩ := h
  exact region_new n oP dP zs T m hm hB hp hdP hgP hrun hsz hown h1 h2

/-- A block that is known whole, read. -/
theorem cell_of_block {W : World} {b : Nat} {zs : Array Value} {T : TypeId} (h : W.heap[b]? = some (.cells zs T (0, 0))) (j : Nat) (v : Value) (hv : zs[j]? = some v) : W.cell? ⟨b, j, none⟩ = some v := by
  rw [cell_of_row W b j _ _ _ h]; exact hv
theorem free_of_block {W : World} {b : Nat} {zs : Array Value} {T : TypeId} (h : W.heap[b]? = some (.cells zs T (0, 0))) : ∀ j, W.frozen? ⟨b, j, none⟩ = false := fun j => frozen_of_row W b j _ _ h
theorem lt_of_block {W : World} {b : Nat} {o : Obj} (h : W.heap[b]? = some o) : b < W.heap.size := (Array.getElem?_eq_some_iff.1 h).1

end
end Go.Proofs.YtchbeheekahhiaaDoor
