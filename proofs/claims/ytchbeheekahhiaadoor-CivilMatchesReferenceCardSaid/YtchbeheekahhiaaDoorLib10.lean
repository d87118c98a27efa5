/-
  A region that draws its order, that reads, calls what leaves all as it was, and stores once, while operations that only hand values on may come before or behind the store.
-/
import Derived.Test.YtchbeheekahhiaaDoorLib9
namespace Go.Proofs.YtchbeheekahhiaaDoor
open Go.RowKit Go.Sort
set_option linter.unusedSimpArgs false
set_option linter.unusedVariables false

section
variable {P : Program} {ops : Array Oper} {md : Region.Mode} {w : World}

/-- It only hands a value on. -/
def handsOn (o : Oper) : Bool := match o.op with | .move _ | .assign _ | .pick _ _ _ => true | _ => false
def pureAt (P : Program) (o : Oper) (a : Act) (v : Value) : Prop := ∀ W, (execOp a.eval o).run P W = .ok (.value v) W

theorem pick_run {ρ : Operand → Value} {o : Oper} {c x y : Operand} (h : o.op = .pick c x y) {b : Bool} (hb : ρ c = .bool b) (W : World) : (execOp ρ o).run P W = .ok (.value (if b then ρ x else ρ y)) W := by
  simp [execOp, h, hb, asBool]
theorem pick_bool {ρ : Operand → Value} {o : Oper} {c x y : Operand} (h : o.op = .pick c x y) {v : Value} {W : World} (hc : calmUpon P W v ((execOp ρ o).run P W)) : ∃ b, ρ c = .bool b := by
  cases hr : ρ c
  case bool b => exact ⟨b, rfl⟩
  all_goals
    exfalso
    simp [execOp, h, hr, asBool, stuck, go_sem, calmUpon] at hc

theorem pure_of_calm {o : Oper} {a : Act} {v : Value} (hp : handsOn o = true) (h : calmAt P o a w v) : pureAt P o a v := by
  have h0 := h w (Ext.refl w)
  unfold handsOn at hp
  split at hp
  · rename_i x hx
    intro W
    rw [BigFrame.run_move x hx] at h0 ⊢
    rw [h0.2]
  · rename_i x hx
    intro W
    rw [BigFrame.run_assign x hx] at h0 ⊢
    rw [h0.2]
  · rename_i c x y hx
    intro W
    obtain ⟨b, hb⟩ := pick_bool hx h0
    rw [pick_run hx hb] at h0 ⊢
    rw [h0.2]
  · cases hp

/-- How operation i goes on: before the store it is calm, behind it it only hands on. -/
def bOp (P : Program) (ops : Array Oper) (w : World) (B : Option Value) (i : Nat) (K : Act → Prop) (a : Act) : Prop :=
  match ops[i]? with
  | none => K a
  | some o => if Region.wanted o (yielded ops a.tmps) then ∃ v, calmAt P o a w v ∧ (B ≠ none → pureAt P o a v) ∧ K (a.put o.dst v) else K (a.put o.dst undef)

theorem bOp_mono {B : Option Value} {i : Nat} {a : Act} {K K' : Act → Prop} (h : ∀ a, K a → K' a) (hh : bOp P ops w B i K a) : bOp P ops w B i K' a := by
  unfold bOp at *
  split
  · exact h _ (by simpa [*] using hh)
  · rename_i o ho
    simp only [ho] at hh
    split
    · rename_i hw; simp only [hw, if_true] at hh; obtain ⟨v, h1, h2, h3⟩ := hh; exact ⟨v, h1, h2, h _ h3⟩
    · rename_i hw; simp only [hw] at hh; exact h _ hh

/-- The worlds before and behind the store. -/
def Stored (w : World) (T : Value → World → Prop) : Option Value → World → Prop
  | none, W => Ext w W
  | some v, W => T v W

theorem wpOp_of_bOp {T : Value → World → Prop} {B : Option Value} {i : Nat} {a : Act} {K : Act → Prop} {K' : Act → World → Prop} {Q' : Exit → Act → World → Prop} {W : World} (hW : Stored w T B W)
    (h : ∀ a W', Stored w T B W' → K a → K' a W') (hh : bOp P ops w B i K a) : wpOp P ops Q' i K' a W := by
  unfold bOp at hh
  unfold wpOp
  split
  · rename_i ho; simp only [ho] at hh; exact h _ _ hW hh
  · rename_i o ho
    simp only [ho] at hh
    split
    · rename_i hw
      simp only [hw, if_true] at hh
      obtain ⟨v, h1, h2, h3⟩ := hh
      refine .inl ?_
      cases B with
      | none =>
        refine wp_of_calm (zs := #[]) (T := 0) (B := none) (w := w) hW (fun a' W' hW' hK => h a' W' hW' hK) ⟨v, h1, h3⟩
      | some u =>
        have := h2 (by simp) W
        unfold Oper.wp
        rw [this]
        exact h _ _ hW h3
    · rename_i hw; simp only [hw] at hh; exact h _ _ hW hh

def YieldsB (P : Program) (ops : Array Oper) (w : World) (B : Option Value) (o : Oper) (v : Value) (a : Act) : Prop :=
  (Region.wanted o (yielded ops a.tmps) = true ∧ calmAt P o a w v ∧ (B ≠ none → pureAt P o a v)) ∨ (Region.wanted o (yielded ops a.tmps) = false ∧ v = undef)

theorem YieldsB.bOp {B : Option Value} {i : Nat} {o : Oper} {v : Value} {a : Act} (hi : ops[i]? = some o) (hy : YieldsB P ops w B o v a) {K : Act → Prop} (h : K (a.put o.dst v)) : bOp P ops w B i K a := by
  unfold Go.Proofs.YtchbeheekahhiaaDoor.bOp
  simp only [hi]
  rcases hy with ⟨hw, hv, hu⟩ | ⟨hw, rfl⟩
  · simp only [hw, if_true]; exact ⟨v, hv, hu, h⟩
  · simp only [hw, Bool.false_eq_true, if_false]; exact h

theorem YieldsB.of_same {B : Option Value} {o : Oper} {v : Value} {a a' : Act} (hy : YieldsB P ops w B o v a) (he : execOp a'.eval o = execOp a.eval o)
    (hw : Region.wanted o (yielded ops a'.tmps) = Region.wanted o (yielded ops a.tmps)) : YieldsB P ops w B o v a' := by
  unfold YieldsB calmAt pureAt at *
  rw [he, hw]
  exact hy

theorem YieldsB.behind {o : Oper} {v : Value} {a : Act} (hp : handsOn o = true) (hy : YieldsB P ops w none o v a) (B : Option Value) : YieldsB P ops w B o v a := by
  rcases hy with ⟨h1, h2, _⟩ | h
  · exact .inl ⟨h1, h2, fun _ => pure_of_calm hp h2⟩
  · exact .inr h

theorem bOp_put {B : Option Value} {j : Nat} {oi oj : Oper} {v : Value} (hj : ops[j]? = some oj) (hap : oi.apart ops oj = true)
    (hsi : ∀ cs b, oi.op ≠ .select cs b) (hsj : ∀ cs b, oj.op ≠ .select cs b) {K : Act → Prop} {a : Act}
    (hy : YieldsB P ops w B oi v a) (h : bOp P ops w B j K (a.put oi.dst v)) :
    bOp P ops w B j (fun a' => YieldsB P ops w B oi v a' ∧ K (a'.put oi.dst v)) a := by
  obtain ⟨h1, h2, h3⟩ := Oper.apart_spec hap
  have keep : ∀ (a : Act), YieldsB P ops w B oi v a → ∀ u, YieldsB P ops w B oi v (a.put oj.dst u) := fun a hy u =>
    hy.of_same (execOp_put oi hsi a oj.dst u h3) (wanted_put oi a oj.dst u h3)
  unfold bOp at *
  simp only [hj] at *
  rw [wanted_put oj a oi.dst v h1] at h
  split
  · rename_i hw
    simp only [hw, if_true] at h
    obtain ⟨u, hu, hpu, hn⟩ := h
    refine ⟨u, fun W hW => ?_, fun hB W => ?_, keep a hy u, by rw [← Act.put_comm a v u h2]; exact hn⟩
    · have := hu W hW
      rwa [execOp_put oj hsj a oi.dst v h1] at this
    · have := hpu hB W
      rwa [execOp_put oj hsj a oi.dst v h1] at this
  · rename_i hw
    simp only [hw] at h
    exact ⟨keep a hy _, by rw [← Act.put_comm a v undef h2]; exact h⟩

/-- What one step leaves. -/
def stepsTo (r : Result Next) (v : Value) (W1 : World) : Prop := r = .ok (.value v) W1 ∨ (r = .ok .skip W1 ∧ v = undef)

/-- What the store does, at whatever moment. -/
def storesAt (P : Program) (oS : Oper) (w : World) (T : Value → World → Prop) (a : Act) : Prop := ∀ W, Ext w W → ∃ v W1, stepsTo ((execOp a.eval oS).run P W) v W1 ∧ T v W1

def wpAnyLS (P : Program) (md : Region.Mode) (ops : Array Oper) (w : World) (N p : Nat) (oS : Oper) (T : Value → World → Prop) (L : Array Bool → Act → Option Value → Prop) : Nat → Array Bool → Act → Option Value → Prop
  | 0, listed, a, B => L listed a B
  | f + 1, listed, a, B => Region.ready md ops listed ≠ [] ∧ ∀ i ∈ Region.ready md ops listed, i < N ∧
      if i = p then B = none ∧ storesAt P oS w T a ∧ ∀ v, wpAnyLS P md ops w N p oS T L f (listed.setIfInBounds i true) (a.put oS.dst v) (some v)
      else bOp P ops w B i (fun a' => wpAnyLS P md ops w N p oS T L f (listed.setIfInBounds i true) a' B) a

theorem wpAny_of_headS {N p g : Nat} {oS : Oper} {T : Value → World → Prop} {L : Array Bool → Act → Option Value → Prop} {Q' : Exit → Act → World → Prop} (hp : ops[p]? = some oS) (hgP : ∀ a : Act, Region.wanted oS (yielded ops a.tmps) = true)
    (hL : ∀ listed a B W, Stored w T B W → L listed a B → wpAny P md ops Q' g listed a W) :
    ∀ (f : Nat) (listed : Array Bool) (a : Act) (B : Option Value) (W : World), Stored w T B W → wpAnyLS P md ops w N p oS T L f listed a B → wpAny P md ops Q' (f + g) listed a W
  | 0, listed, a, B, W, hW, h => by rw [Nat.zero_add]; exact hL _ _ _ _ hW h
  | f + 1, listed, a, B, W, hW, h => by
    rw [show f + 1 + g = (f + g) + 1 by omega]
    refine ⟨fun h0 => absurd h0 h.1, fun i hi => ?_⟩
    obtain ⟨_, h2⟩ := h.2 i hi
    by_cases hip : i = p
    · rw [if_pos hip] at h2
      subst hip
      obtain ⟨rfl, hst, h3⟩ := h2
      obtain ⟨v, W1, hr, hT⟩ := hst W hW
      have h4 := wpAny_of_headS hp hgP hL f _ _ (some v) W1 hT (h3 v)
      unfold wpOp
      simp only [hp]
      rw [if_pos (hgP a)]
      refine .inl ?_
      unfold Oper.wp
      rcases hr with hr | ⟨hr, hv⟩
      · rw [hr]; exact h4
      · subst hv; rw [hr]; exact h4
    · rw [if_neg hip] at h2
      exact wpOp_of_bOp hW (fun a' W' hW' h' => wpAny_of_headS hp hgP hL f _ a' B W' hW' h') h2

/-- p waits for i, at however many removes. -/
def waitsAll (md : Region.Mode) (ops : Array Oper) (p : Nat) : Nat → Nat → Bool
  | 0, _ => false
  | f + 1, i => Region.waitsFor md ops p i || (List.range ops.size).any fun j => Region.waitsFor md ops j i && waitsAll md ops p f j

theorem listed_of_waits {n p : Nat} {listed : Array Bool} (inv : HeadInv md ops n listed) (hr : p ∈ Region.ready md ops listed) : ∀ (f i : Nat), waitsAll md ops p f i = true → listed.getD i false = true
  | 0, i, h => by cases h
  | f + 1, i, h => by
    simp only [waitsAll, Bool.or_eq_true, List.any_eq_true, Bool.and_eq_true] at h
    obtain ⟨_, op, hop, hall⟩ := mem_ready.1 hr
    rcases h with h | ⟨j, _, h1, h2⟩
    · obtain ⟨o', ho', e, he, hb, hon⟩ := Region.waitsFor_spec h
      obtain rfl : o' = op := Option.some.inj (ho'.symm.trans hop)
      have := hall e he hb
      rwa [hon] at this
    · have hj := listed_of_waits inv hr f j h2
      obtain ⟨oj, hoj, e, he, hb, hon⟩ := Region.waitsFor_spec h1
      have := inv.closed j oj hoj hj e he hb
      rwa [hon] at this

/-- What is not only handed on comes before the store. -/
def beforeStore (md : Region.Mode) (ops : Array Oper) (p : Nat) : Bool :=
  (List.range p).all fun i => (match ops[i]? with | some o => handsOn o | none => false) || waitsAll md ops p p i

theorem wpAnyLS_first {N p i : Nat} {oi oS : Oper} {T : Value → World → Prop} {v : Value} {L : Array Bool → Act → Option Value → Prop} (hp : ops[p]? = some oS) (hi : ops[i]? = some oi) (hsel : ∀ (j : Nat) (o : Oper) cs b, ops[j]? = some o → o.op ≠ .select cs b)
    (hs : Region.sinkB md ops N = true) (hc : Region.chainB md ops N = true) (hn : N < ops.size) (hin : i < N) (hip : i ≠ p) (hbs : handsOn oi = true ∨ waitsAll md ops p p i = true)
    (hdone : ∀ listed a B, L listed a B → ∀ j ∈ Region.ready md ops listed, N ≤ j) :
    ∀ (f : Nat) (listed : Array Bool) (a : Act) (B : Option Value), HeadInv md ops N listed →
      (∀ j oj, ops[j]? = some oj → j ≠ i → listed.getD j true = false → (∀ e ∈ oj.after, Region.binds md e = true → e.on ≠ i) → oi.apart ops oj = true) →
      i ∈ Region.ready md ops listed → YieldsB P ops w B oi v a →
      wpAnyLS P md ops w N p oS T L f (listed.setIfInBounds i true) (a.put oi.dst v) B → wpAnyLS P md ops w N p oS T L (f + 1) listed a B := by
  intro f
  induction f with
  | zero =>
    intro listed a B inv _ hr hy H
    have hun := (mem_ready.1 hr).1
    refine ⟨fun h => (by rw [h] at hr; cases hr), fun j hj => ?_⟩
    have hjn : j < N := by
      rcases Nat.lt_or_ge j N with h | h
      · exact h
      · exact absurd hj (tail_waits hs hc hn inv _ i rfl hin hun j h)
    refine ⟨hjn, ?_⟩
    by_cases hji : j = i
    · subst hji; rw [if_neg hip]; exact hy.bOp hi H
    · have := hdone _ _ _ H j (ready_mono hj hji)
      omega
  | succ f ih =>
    intro listed a B inv hfree hr hy H
    have hun := (mem_ready.1 hr).1
    refine ⟨fun h => (by rw [h] at hr; cases hr), fun j hj => ?_⟩
    have hjn : j < N := by
      rcases Nat.lt_or_ge j N with h | h
      · exact h
      · exact absurd hj (tail_waits hs hc hn inv _ i rfl hin hun j h)
    refine ⟨hjn, ?_⟩
    by_cases hji : j = i
    · subst hji; rw [if_neg hip]; exact hy.bOp hi H
    · have h1 := (H.2 j (ready_mono hj hji)).2
      obtain ⟨hjun, oj, hoj, hall⟩ := mem_ready.1 hj
      have hnot : ∀ e ∈ oj.after, Region.binds md e = true → e.on ≠ i := fun e he hb heq => by
        have h1 := hall e he hb
        rw [heq, getD_both hun] at h1
        cases h1
      have hap := hfree j oj hoj hji hjun hnot
      have hfree' : ∀ k ok, ops[k]? = some ok → k ≠ i → (listed.setIfInBounds j true).getD k true = false →
          (∀ e ∈ ok.after, Region.binds md e = true → e.on ≠ i) → oi.apart ops ok = true := fun k ok hk hki hun hno => by
        refine hfree k ok hk hki ?_ hno
        by_cases hjk : j = k
        · subst hjk; exact hjun
        · rw [getD_set_ne true hjk] at hun; exact hun
      by_cases hjp : j = p
      · rw [if_pos hjp] at h1 ⊢
        subst hjp
        obtain rfl : oj = oS := Option.some.inj (hoj.symm.trans hp)
        obtain ⟨k1, k2, k3⟩ := Oper.apart_spec hap
        obtain ⟨rfl, hst, h3⟩ := h1
        have hho : handsOn oi = true := by
          rcases hbs with h | h
          · exact h
          · have := listed_of_waits inv hj _ _ h
            rw [getD_both hun] at this
            cases this
        refine ⟨rfl, fun W hW => ?_, fun u => ?_⟩
        · obtain ⟨u, W1, e1, e2⟩ := hst W hW
          exact ⟨u, W1, by rwa [execOp_put oj (fun cs b => hsel j oj cs b hoj) a oi.dst v k1] at e1, e2⟩
        · refine ih _ _ _ (inv.set hj hjn) hfree' (ready_mono hr (Ne.symm hji)) ((hy.of_same (execOp_put oi (fun cs b => hsel i oi cs b hi) a oj.dst _ k3) (wanted_put oi a oj.dst _ k3)).behind hho _) ?_
          rw [Array.setIfInBounds_comm _ _ hji, ← Act.put_comm a v _ k2]
          exact h3 u
      · rw [if_neg hjp] at h1 ⊢
        have h2 := bOp_put hoj hap (fun cs b => hsel i oi cs b hi) (fun cs b => hsel j oj cs b hoj) hy h1
        refine bOp_mono (fun a' h3 => ih (listed.setIfInBounds j true) a' B (inv.set hj hjn) hfree' (ready_mono hr (Ne.symm hji)) h3.1 ?_) h2
        rw [Array.setIfInBounds_comm _ _ hji]
        exact h3.2

theorem wpAnyLS_lex {n g : Nat} {oS : Oper} {T : Value → World → Prop} {Lq : Act → Prop} (hp : ops[n]? = some oS) (hsel : Region.noSelect ops = true) (hs : Region.sinkB md ops (n + 1) = true) (hc : Region.chainB md ops (n + 1) = true) (hn : n + 1 < ops.size) (hbs : beforeStore md ops n = true)
    (hst : ∀ a, Lq a → storesAt P oS w T a) :
    ∀ (l : List Oper) (k : Nat) (listed : Array Bool) (a : Act), (∀ j, j < l.length → l[j]? = ops[k + j]?) → k + l.length = n → HeadInv md ops (n + 1) listed →
    lexHeadA md ops g l.length k listed = true → wpCalm P ops w Lq l a →
    wpAnyLS P md ops w (n + 1) n oS T (fun listed' a' B => Region.seqB md ops g (n + 1) listed' = true ∧ ∃ v a0, B = some v ∧ a' = a0.put oS.dst v ∧ Lq a0) (l.length + 1) listed a none
  | [], k, listed, a, _, hk, _, hB, h => by
    have : k = n := by simpa using hk
    subst this
    simp only [List.length_nil, lexHeadA, Bool.and_eq_true, decide_eq_true_eq] at hB
    refine ⟨by rw [hB.1]; simp, fun i hi => ?_⟩
    rw [hB.1] at hi
    obtain rfl : i = k := by simpa using hi
    refine ⟨by omega, ?_⟩
    rw [if_pos rfl]
    exact ⟨rfl, hst a h, fun v => ⟨hB.2, v, a, rfl, rfl, h⟩⟩
  | o :: l, k, listed, a, hl, hk, inv, hB, h => by
    have h0 : ops[k]? = some o := by simpa using (hl 0 (by simp)).symm
    simp only [List.length_cons, lexHeadA, Bool.and_eq_true] at hB
    obtain ⟨⟨hr, hf⟩, hB'⟩ := hB
    have hkn : k < n := by simp only [List.length_cons] at hk; omega
    have hr' : k ∈ Region.ready md ops listed := by simpa using hr
    have hst0 : cOp P ops w k (wpCalm P ops w Lq l) a := by unfold cOp; simp only [h0]; exact h
    obtain ⟨v, hy, hK⟩ := yieldsC_of_cOp h0 hst0
    have hb := List.all_eq_true.1 hbs k (List.mem_range.2 hkn)
    rw [h0] at hb
    simp only [Bool.or_eq_true] at hb
    have hyb : YieldsB P ops w none o v a := by
      rcases hy with ⟨h1, h2⟩ | h1
      · exact .inl ⟨h1, h2, fun h => absurd rfl h⟩
      · exact .inr h1
    exact wpAnyLS_first hp h0 (Region.noSelect_spec hsel) hs hc hn (by omega) (by omega) hb (fun listed' a' B hL => seqB_ready hL.1) (l.length + 1) listed a none inv (Region.free_spec h0 hf) hr' hyb
      (wpAnyLS_lex hp hsel hs hc hn hbs hst l (k + 1) _ _ (fun j hj => by have := hl (j + 1) (by simp; omega); simpa [Nat.add_assoc, Nat.add_comm 1 j] using this) (by simp only [List.length_cons] at hk; omega) (inv.set hr' (by omega)) hB' hK)

def storeUpon (K : Value → World → Prop) : Result Next → Prop
  | .ok (.value v) W1 => K v W1
  | .ok .skip W1 => K undef W1
  | _ => False
theorem of_storeUpon {K : Value → World → Prop} {r : Result Next} (h : storeUpon K r) : ∃ v W1, stepsTo r v W1 ∧ K v W1 := by
  unfold storeUpon at h
  split at h
  · exact ⟨_, _, .inl rfl, h⟩
  · exact ⟨_, _, .inr ⟨rfl, rfl⟩, h⟩
  · cases h

/-- For the walk: 'refine region_store n _ m ..; apply Exists.intro; refine ⟨fun W0 hE0 => ?_, fun W0 hE0 => ?_⟩': the second goal: what the store makes of the world, and the forced end behind it. -/
theorem region_store {id : Nat} {Q : Exit → Act → World → Prop} {a : Act} {l : List Oper} (n : Nat) (oS : Oper) (m : Nat) (hm : P.follows .mixedOrders = true) (hB : lexTailA .any l.toArray n = true) (hbs : beforeStore .any l.toArray n = true)
    (hp : l.toArray[n]? = some oS) (hgP : ∀ a : Act, Region.wanted oS (yielded l.toArray a.tmps) = true) (hsz : a.tmps.size = m) (hown : ownSlots m (l.take n) = true)
    (h : ∃ a' : Act, (∀ W0, Ext w W0 → wpQuiet P l.toArray (fun w' => ∃ p : Regrown, w' = grow (redrawn W0 p.d) p.os) (· = a') (l.take n) a) ∧
      ∀ W0, Ext w W0 → ∀ K : Value → World → Prop, (∀ v W1, wpList P l.toArray Q (l.drop (n + 1)) (a'.put oS.dst v) W1 → K v W1) → storeUpon K ((execOp a'.eval oS).run P W0)) : (Code.region id l.toArray true).wp P Q a w := by
  obtain ⟨a', hq, ht0⟩ := h
  have ht : ∀ W0, Ext w W0 → ∃ v W1, stepsTo ((execOp a'.eval oS).run P W0) v W1 ∧ wpList P l.toArray Q (l.drop (n + 1)) (a'.put oS.dst v) W1 := fun W0 hW0 => of_storeUpon (ht0 W0 hW0 _ fun _ _ h => h)
  simp only [lexTailA, Bool.and_eq_true, decide_eq_true_eq] at hB
  obtain ⟨⟨⟨⟨hsel, hn⟩, hs⟩, hc⟩, hlex⟩ := hB
  have hn' : n + 1 < l.length := by simpa using hn
  have htl : (l.take n).length = n := by simp; omega
  have hdl : (l.drop (n + 1)).length = l.toArray.size - (n + 1) := by simp
  have inv0 : HeadInv .any l.toArray (n + 1) (Array.replicate l.toArray.size false) :=
    ⟨by simp, fun j oj _ hl => (by rw [getD_replicate_false] at hl; cases hl), fun t _ ht => getD_in (by simpa using ht) (getD_replicate_false _ _)⟩
  let T : Value → World → Prop := fun v W1 => wpList P l.toArray Q (l.drop (n + 1)) (a'.put oS.dst v) W1
  have H := wpAnyLS_lex (md := .any) (T := T) (g := l.toArray.size - (n + 1)) hp hsel hs hc hn hbs (Lq := (· = a')) (fun a0 (ha0 : a0 = a') => by rw [ha0]; exact ht) (l.take n) 0 _ a (fun j hj => by
    have hj' : j < n := by rw [htl] at hj; exact hj
    simp [hj']) (by simpa using htl) inv0 (by rw [htl]; exact hlex) (calm_of_quiet (w := w) (l.take n) a (by rw [hsz]; exact hown) hq)
  refine wp_region_any hm ?_
  have := wpAny_of_headS (Q' := Q) (g := l.toArray.size - (n + 1)) (w := w) (N := n + 1) (T := T) (L := fun listed' a1 B => Region.seqB .any l.toArray (l.toArray.size - (n + 1)) (n + 1) listed' = true ∧ ∃ v a0, B = some v ∧ a1 = a0.put oS.dst v ∧ a0 = a') hp hgP (fun listed a1 B W hW hL => by
    obtain ⟨hseq, v, a0, rfl, rfl, ha0⟩ := hL
    subst ha0
    have := wpAny_of_seq (md := .any) (Q' := Q) (l.drop (n + 1)) (n + 1) listed _ W (fun j => by simp [List.getElem?_drop]) (by rw [hdl]; exact hseq) hW
    rwa [hdl] at this) _ _ _ none { w with drawn := w.drawn + 1 } ((Ext.refl w).drew) H
  rw [htl, show n + 1 + (l.toArray.size - (n + 1)) = l.toArray.size by omega] at this
  exact this

end
end Go.Proofs.YtchbeheekahhiaaDoor
