/-
  A region that draws its order, walked operation by operation: each one is shown to give what is said of its slot, in whatever world the others have left, out of what is said of the slots that it waits for.
-/
import Derived.Test.YtchbeheekahhiaaDoorLib10
namespace Go.Proofs.YtchbeheekahhiaaDoor
open Go.RowKit Go.Sort
set_option linter.unusedSimpArgs false
set_option linter.unusedVariables false

/-- What is said of a slot, and that it stays so while the world grows by S. -/
structure Rel (S : World → World → Prop) where
  r : Value → World → Prop
  stab : ∀ v W W', r v W → S W W' → r v W'

/-- The slot holds just this. -/
def Rel.one {S : World → World → Prop} (v : Value) : Rel S := ⟨fun u _ => u = v, fun _ _ _ h _ => h⟩
/-- The slot holds what a plain law says of it. -/
def Rel.law {S : World → World → Prop} (p : Value → Prop) : Rel S := ⟨fun u _ => p u, fun _ _ _ h _ => h⟩

/-- The slot holds what points at a block of its own that holds just these. -/
def Rel.blk (zs : Array Value) (T : TypeId) (mk : Nat → Value) : Rel Ext := ⟨fun v W => ∃ b, v = mk b ∧ W.heap[b]? = some (.cells zs T (0, 0)), fun v W W' ⟨b, h1, h2⟩ hE => ⟨b, h1, (hE.block b (Array.getElem?_eq_some_iff.1 h2).1).trans h2⟩⟩

def putAll (a : Act) : List (Option Tmp) → List Value → Act
  | d :: ds, v :: vs => putAll (a.put d v) ds vs
  | _, _ => a
def slotOf (a : Act) : Option Tmp → Value
  | some d => a.tmps.getD d undef
  | none => undef

def atR {S : World → World → Prop} (R : List (Rel S)) (vs : List Value) (W : World) (i : Nat) : Prop :=
  match R[i]?, vs[i]? with
  | some r, some v => r.r v W
  | _, _ => True
def factsR {S : World → World → Prop} (R : List (Rel S)) (vs : List Value) (W : World) : List Nat → Prop
  | [] => True
  | d :: ds => atR R vs W d ∧ factsR R vs W ds
def oldsR (a : Act) (dsts : List (Option Tmp)) (vs : List Value) : List Nat → Prop
  | [] => True
  | i :: is => (match dsts[i]?, vs[i]? with
    | some d, some v => v = slotOf a d
    | _, _ => True) ∧ oldsR a dsts vs is

theorem factsR_of {S : World → World → Prop} {R : List (Rel S)} {vs : List Value} {W : World} : ∀ {ds : List Nat}, (∀ d ∈ ds, atR R vs W d) → factsR R vs W ds
  | [], _ => trivial
  | d :: ds, h => ⟨h d (by simp), factsR_of fun e he => h e (by simp [he])⟩
theorem oldsR_of {a : Act} {dsts : List (Option Tmp)} {vs : List Value} : ∀ {is : List Nat}, (∀ i ∈ is, ∀ d v, dsts[i]? = some d → vs[i]? = some v → v = slotOf a d) → oldsR a dsts vs is
  | [], _ => trivial
  | i :: is, h => ⟨by split; exact h i (by simp) _ _ (by assumption) (by assumption); trivial, oldsR_of fun e he => h e (by simp [he])⟩

/-- How one operation goes on. -/
def relyQ {S : World → World → Prop} (Q : Exit → Act → World → Prop) (I : World → Prop) (a : Act) (d : Option Tmp) (r : Rel S) (W : World) : Exit → Act → World → Prop
  | .normal, a', W' => ∃ v, a' = a.put d v ∧ r.r v W' ∧ S W W' ∧ I W'
  | e, a', W' => Q e a' W'

theorem rely_done {S : World → World → Prop} {Q : Exit → Act → World → Prop} {I : World → Prop} {a : Act} {d : Option Tmp} {r : Rel S} {W : World} {a' : Act} {W' : World} (v : Value) (h1 : a' = a.put d v) (h2 : r.r v W') (h3 : S W W') (h4 : I W') : relyQ Q I a d r W .normal a' W' :=
  ⟨v, h1, h2, h3, h4⟩

/-- What is to be shown of each operation. -/
def stepsR {S : World → World → Prop} (P : Program) (Q : Exit → Act → World → Prop) (I : World → Prop) (a : Act) (ops : Array Oper) (n : Nat) (dsts : List (Option Tmp)) (R : List (Rel S)) : List Oper → List (Option Tmp) → List (Rel S) → List (List Nat) → List (List Nat) → Prop
  | o :: l, d :: ds, r :: rs, dep :: deps, old :: olds =>
    (∀ vs W, vs.length = n → I W → factsR R vs W dep → oldsR a dsts vs old → wpList P ops (relyQ Q I (putAll a dsts vs) d r W) [o] (putAll a dsts vs) W) ∧ stepsR P Q I a ops n dsts R l ds rs deps olds
  | [], [], [], [], [] => True
  | _, _, _, _, _ => False

theorem stepsR_cons {S : World → World → Prop} {P : Program} {Q : Exit → Act → World → Prop} {I : World → Prop} {a : Act} {ops : Array Oper} {n : Nat} {dsts : List (Option Tmp)} {R : List (Rel S)} {o : Oper} {l : List Oper} {d : Option Tmp} {ds : List (Option Tmp)} {r : Rel S} {rs : List (Rel S)} {dep : List Nat} {deps : List (List Nat)} {old : List Nat} {olds : List (List Nat)}
    (h1 : ∀ vs W, vs.length = n → I W → factsR R vs W dep → oldsR a dsts vs old → wpList P ops (relyQ Q I (putAll a dsts vs) d r W) [o] (putAll a dsts vs) W) (h2 : stepsR P Q I a ops n dsts R l ds rs deps olds) :
    stepsR P Q I a ops n dsts R (o :: l) (d :: ds) (r :: rs) (dep :: deps) (old :: olds) := ⟨h1, h2⟩

theorem stepsR_at {S : World → World → Prop} {P : Program} {Q : Exit → Act → World → Prop} {I : World → Prop} {a : Act} {ops : Array Oper} {n : Nat} {dsts : List (Option Tmp)} {R : List (Rel S)} :
    ∀ {l : List Oper} {ds : List (Option Tmp)} {rs : List (Rel S)} {deps olds : List (List Nat)}, stepsR P Q I a ops n dsts R l ds rs deps olds → ∀ (i : Nat) (o : Oper), l[i]? = some o →
      ∃ d r, ds[i]? = some d ∧ rs[i]? = some r ∧ ∀ vs W, vs.length = n → I W → factsR R vs W (deps.getD i []) → oldsR a dsts vs (olds.getD i []) → wpList P ops (relyQ Q I (putAll a dsts vs) d r W) [o] (putAll a dsts vs) W
  | o :: l, d :: ds, r :: rs, dep :: deps, old :: olds, h, 0, o', ho => by
    obtain rfl : o = o' := by simpa using ho
    exact ⟨d, r, rfl, rfl, by simpa using h.1⟩
  | o :: l, d :: ds, r :: rs, dep :: deps, old :: olds, h, i + 1, o', ho => by
    obtain ⟨d', r', h1, h2, h3⟩ := stepsR_at h.2 i o' (by simpa using ho)
    exact ⟨d', r', by simpa using h1, by simpa using h2, by simpa using h3⟩
  | [], [], [], [], [], _, i, o', ho => by simp at ho

def distinctB : List (Option Tmp) → Bool
  | [] => true
  | none :: ds => distinctB ds
  | some d :: ds => !ds.contains (some d) && distinctB ds

/-- That the tables tell what the region's edges say. -/
def relyB (ops : Array Oper) (dsts : List (Option Tmp)) (deps olds : List (List Nat)) : Bool :=
  (List.range ops.size).all (fun i => match ops[i]? with
    | none => false
    | some o => o.after.all (fun e => !Region.binds .any e || decide (e.on < i)) &&
      (deps.getD i []).all (fun j => o.after.any fun e => Region.binds .any e && (e.on == j || (deps.getD e.on []).contains j)) &&
      (olds.getD i []).all (fun j => (deps.getD j []).contains i)) &&
  decide (ops.toList.map (·.dst) = dsts) && distinctB dsts

theorem put_size' (a : Act) (d : Option Tmp) (v : Value) : (a.put d v).tmps.size = a.tmps.size := put_size a d v

theorem put_slot (a : Act) (d : Option Tmp) : a.put d (slotOf a d) = a := by
  cases d with
  | none => rfl
  | some d =>
    show { a with tmps := a.tmps.setIfInBounds d (a.tmps.getD d undef) } = a
    have : a.tmps.setIfInBounds d (a.tmps.getD d undef) = a.tmps := by
      apply Array.ext
      · simp
      · intro i h1 h2
        by_cases hi : d = i
        · subst hi; simp [h2]
        · rw [Array.getElem_setIfInBounds_ne (by simpa using h1) hi]
    rw [this]

theorem putAll_orig (a : Act) : ∀ (ds : List (Option Tmp)), putAll a ds (ds.map (slotOf a)) = a
  | [] => rfl
  | d :: ds => by
    show putAll (a.put d (slotOf a d)) ds (ds.map (slotOf a)) = a
    rw [put_slot]
    exact putAll_orig a ds

theorem put_put (a : Act) (d : Option Tmp) (v u : Value) : (a.put d v).put d u = a.put d u := by
  cases d with
  | none => rfl
  | some d => simp [Act.put]

theorem putAll_comm (a : Act) (d : Option Tmp) (v : Value) : ∀ (ds : List (Option Tmp)) (vs : List Value), (∀ e, d = some e → some e ∉ ds) → (putAll a ds vs).put d v = putAll (a.put d v) ds vs
  | [], _, _ => rfl
  | _ :: _, [], _ => rfl
  | e :: ds, u :: vs, h => by
    show (putAll (a.put e u) ds vs).put d v = putAll ((a.put d v).put e u) ds vs
    rw [putAll_comm (a.put e u) d v ds vs (fun x hx hm => h x hx (by simp [hm])), Act.put_comm a v u (fun x hx he => h x hx (by simp [he]))]

theorem putAll_put : ∀ (a : Act) (ds : List (Option Tmp)) (vs : List Value) (i : Nat) (d : Option Tmp) (v : Value), distinctB ds = true → vs.length = ds.length → ds[i]? = some d →
    (putAll a ds vs).put d v = putAll a ds (vs.set i v)
  | a, [], vs, i, d, v, _, _, h => by simp at h
  | a, e :: ds, [], i, d, v, _, hl, h => by simp at hl
  | a, e :: ds, u :: vs, 0, d, v, hd, hl, h => by
    obtain rfl : e = d := by simpa using h
    show (putAll (a.put e u) ds vs).put e v = putAll (a.put e v) ds vs
    rw [putAll_comm (a.put e u) e v ds vs (fun x hx hm => by subst hx; simp [distinctB, hm] at hd), put_put]
  | a, e :: ds, u :: vs, i + 1, d, v, hd, hl, h => by
    show (putAll (a.put e u) ds vs).put d v = putAll (a.put e u) ds (vs.set i v)
    refine putAll_put (a.put e u) ds vs i d v ?_ (by simpa using hl) (by simpa using h)
    cases e with
    | none => exact hd
    | some e => simp only [distinctB, Bool.and_eq_true] at hd; exact hd.2

structure RelyInv {S : World → World → Prop} (I : World → Prop) (a0 : Act) (ops : Array Oper) (dsts : List (Option Tmp)) (R : List (Rel S)) (deps : List (List Nat)) (listed : Array Bool) (a : Act) (W : World) (vs : List Value) : Prop where
  size : listed.size = ops.size
  inv : I W
  len : vs.length = dsts.length
  act : a = putAll a0 dsts vs
  done : ∀ i, listed.getD i false = true → atR R vs W i
  orig : ∀ i d v, listed.getD i true = false → dsts[i]? = some d → vs[i]? = some v → v = slotOf a0 d
  dep : ∀ i, listed.getD i false = true → ∀ j ∈ deps.getD i [], listed.getD j false = true

theorem all_listed {ops : Array Oper} {dsts : List (Option Tmp)} {deps olds : List (List Nat)} (hB : relyB ops dsts deps olds = true) {listed : Array Bool} (hs : listed.size = ops.size) (hr : Region.ready .any ops listed = []) : ∀ i, i < ops.size → listed.getD i false = true := by
  intro i
  induction i using Nat.strongRecOn with
  | _ i ih =>
    intro hi
    cases h : listed.getD i false with
    | true => rfl
    | false =>
      exfalso
      have : i ∈ Region.ready .any ops listed := by
        refine mem_ready.2 ⟨getD_in (by omega) h, ops[i], by simp [hi], fun e he hb => ?_⟩
        simp only [relyB, Bool.and_eq_true, List.all_eq_true, List.mem_range] at hB
        have h1 := hB.1.1 i hi
        rw [Array.getElem?_eq_getElem hi] at h1
        simp only [Bool.and_eq_true] at h1
        have h2 := Array.all_eq_true'.1 h1.1.1 e he
        simp only [hb, Bool.not_true, Bool.false_or, decide_eq_true_eq] at h2
        exact ih _ h2 (by omega)
      rw [hr] at this
      cases this

theorem count_set {listed : Array Bool} {i : Nat} (h : listed.getD i true = false) : (listed.setIfInBounds i true).toList.count false + 1 = listed.toList.count false := by
  obtain ⟨l⟩ := listed
  have key : ∀ (l : List Bool) (i : Nat), l[i]? = some false → (l.set i true).count false + 1 = l.count false := by
    intro l
    induction l with
    | nil => intro i h; simp at h
    | cons x l ih =>
      intro i h
      cases i with
      | zero =>
        obtain rfl : x = false := by simpa using h
        simp
      | succ i =>
        have := ih i (by simpa using h)
        cases x <;> simp [List.count_cons] <;> omega
  have h1 : l[i]? = some false := by
    rcases Nat.lt_or_ge i l.length with hi | hi
    · simp [hi] at h ⊢; exact h
    · simp [List.getElem?_eq_none hi] at h
  simpa using key l i h1

theorem wpAny_rely {S : World → World → Prop} {P : Program} {Q : Exit → Act → World → Prop} {I : World → Prop} {a0 : Act} {l : List Oper} {dsts : List (Option Tmp)} {R : List (Rel S)} {deps olds : List (List Nat)}
    (hB : relyB l.toArray dsts deps olds = true) (hstep : stepsR P Q I a0 l.toArray dsts.length dsts R l dsts R deps olds)
    (hend : ∀ vs W, vs.length = dsts.length → I W → (∀ i, i < l.length → atR R vs W i) → Q .normal (putAll a0 dsts vs) W) :
    ∀ (fuel : Nat) (listed : Array Bool) (a : Act) (W : World) (vs : List Value), listed.toList.count false = fuel → RelyInv I a0 l.toArray dsts R deps listed a W vs → wpAny P .any l.toArray Q fuel listed a W := by
  have fin : ∀ (listed : Array Bool) (a : Act) (W : World) (vs : List Value), RelyInv I a0 l.toArray dsts R deps listed a W vs → Region.ready .any l.toArray listed = [] → Q .normal a W := by
    intro listed a W vs inv hr
    rw [inv.act]
    exact hend vs W inv.len inv.inv fun i hi => inv.done i (all_listed hB inv.size hr i (by simpa using hi))
  intro fuel
  induction fuel with
  | zero =>
    intro listed a W vs hc inv
    have hr : Region.ready .any l.toArray listed = [] := by
      apply List.eq_nil_iff_forall_not_mem.2
      intro i hi
      have := count_set (mem_ready.1 hi).1
      omega
    exact ⟨hr, fin listed a W vs inv hr⟩
  | succ fuel ih =>
    intro listed a W vs hc inv
    refine ⟨fin listed a W vs inv, fun i hi => ?_⟩
    obtain ⟨hun, o, ho, hall⟩ := mem_ready.1 hi
    have hil : i < l.length := by have := (Array.getElem?_eq_some_iff.1 ho).1; simpa using this
    have ho' : l[i]? = some o := by simpa using ho
    obtain ⟨d, r, hd, hr, hst⟩ := stepsR_at hstep i o ho'
    have hB' := hB
    simp only [relyB, Bool.and_eq_true, List.all_eq_true, List.mem_range, decide_eq_true_eq] at hB'
    obtain ⟨⟨hB1, hB2⟩, hB3⟩ := hB'
    have hB4 := hB1 i (by simpa using hil)
    rw [ho] at hB4
    simp only [Bool.and_eq_true, List.all_eq_true] at hB4
    obtain ⟨⟨_, hdep⟩, hold⟩ := hB4
    have hdst : o.dst = d := by
      have : (l.map (·.dst))[i]? = some d := by rw [show l.map (·.dst) = dsts from by simpa using hB2]; exact hd
      simpa [ho'] using this
    have hdepl : ∀ j ∈ deps.getD i [], listed.getD j false = true := by
      intro j hj
      obtain ⟨e, he, hb⟩ := Array.any_eq_true'.1 (hdep j hj)
      simp only [Bool.and_eq_true, Bool.or_eq_true, beq_iff_eq] at hb
      have h1 := hall e he hb.1
      rcases hb.2 with h2 | h2
      · rw [← h2]; exact h1
      · exact inv.dep _ h1 j (by simpa using h2)
    have hw := hst vs W inv.len inv.inv (factsR_of fun j hj => inv.done j (hdepl j hj)) (oldsR_of fun j hj d' v h1 h2 => by
      have h3 : i ∈ deps.getD j [] := by simpa using hold j hj
      refine inv.orig j d' v ?_ h1 h2
      cases hlj : listed.getD j false with
      | true =>
        have := inv.dep j hlj i h3
        rw [getD_both hun] at this
        cases this
      | false =>
        refine getD_in ?_ hlj
        have h4 : j < dsts.length := (List.getElem?_eq_some_iff.1 h1).1
        have h5 : dsts.length = l.length := by rw [← hB2]; simp
        rw [inv.size]; simp; omega)
    rw [← inv.act] at hw
    have key : ∀ a' W', relyQ Q I a d r W .normal a' W' → wpAny P .any l.toArray Q fuel (listed.setIfInBounds i true) a' W' := by
      rintro a' W' ⟨v, h1, h2, h3, h4⟩
      have hvi : i < vs.length := by rw [inv.len]; exact (List.getElem?_eq_some_iff.1 hd).1
      refine ih _ a' W' (vs.set i v) (by have := count_set hun; omega) ⟨by simp [inv.size], h4, by simp [inv.len], ?_, fun k hk => ?_, fun k d' v' hk hd' hv' => ?_, fun k hk j hj => ?_⟩
      · rw [h1, inv.act]
        exact putAll_put a0 dsts vs i d v hB3 inv.len hd
      · by_cases hik : i = k
        · subst hik
          unfold atR
          rw [hr, List.getElem?_set_self hvi]
          exact h2
        · rw [getD_set_ne false hik] at hk
          have := inv.done k hk
          unfold atR at this ⊢
          rw [List.getElem?_set_ne hik]
          split
          · rename_i r' u h5 h6
            rw [h5, h6] at this
            exact r'.stab u W W' this h3
          · trivial
      · by_cases hik : i = k
        · subst hik
          have : (listed.setIfInBounds i true).getD i true = true := by
            rcases Nat.lt_or_ge i listed.size with h | h
            · simp [h]
            · simp [Array.getElem?_eq_none (show (listed.setIfInBounds i true).size ≤ i by simpa using h)]
          rw [this] at hk; cases hk
        · rw [getD_set_ne true hik] at hk
          rw [List.getElem?_set_ne hik] at hv'
          exact inv.orig k d' v' hk hd' hv'
      · by_cases hik : i = k
        · subst hik
          exact getD_set_true (hdepl j hj)
        · rw [getD_set_ne false hik] at hk
          exact getD_set_true (inv.dep k hk j hj)
    unfold wpOp
    simp only [ho]
    unfold wpList at hw
    split
    · rename_i hwd
      rw [if_pos hwd] at hw
      rcases hw with hw | ⟨hw, hlo⟩
      · left
        unfold Oper.wp at hw ⊢
        generalize (execOp a.eval o).run P W = res at *
        cases res with
        | ok n w' =>
          cases n <;> simp only [Oper.upon] at hw ⊢ <;>
            first
              | exact key _ _ hw
              | exact Calls.mono hw (fun e w'' he => by cases e <;> first | exact key _ _ he | exact he)
              | exact Rows.mono hw (fun _ _ he => key _ _ he)
        | halt x w' => cases x <;> simp only [Oper.upon] at hw ⊢ <;> exact hw
      · right
        obtain ⟨a', w', hq⟩ := hlo
        exact ⟨hw, a', w', hq⟩
    · rename_i hwd
      rw [if_neg hwd] at hw
      exact key _ _ hw

theorem len_cons {α : Type} {n : Nat} {vs : List α} (h : vs.length = n + 1) : ∃ x t, vs = x :: t ∧ t.length = n := by
  cases vs with
  | nil => simp at h
  | cons x t => exact ⟨x, t, rfl, by simpa using h⟩
theorem len_nil {α : Type} {vs : List α} (h : vs.length = 0) : vs = [] := List.length_eq_zero_iff.1 h

/-- For the walk: dsts, deps, olds are the region's tables (wip/regions.lean prints them). -/
theorem region_rely {S : World → World → Prop} {P : Program} {id : Nat} {Q : Exit → Act → World → Prop} {a : Act} {w : World} {l : List Oper} (I : World → Prop) (dsts : List (Option Tmp)) (deps olds : List (List Nat)) (R : List (Rel S))
    (hm : P.follows .mixedOrders = true) (hB : relyB l.toArray dsts deps olds = true) (hI : I { w with drawn := w.drawn + 1 })
    (hstep : stepsR P Q I a l.toArray dsts.length dsts R l dsts R deps olds)
    (hend : ∀ vs W, vs.length = dsts.length → I W → factsR R vs W (List.range dsts.length) → Q .normal (putAll a dsts vs) W) : (Code.region id l.toArray true).wp P Q a w := by
  refine wp_region_any hm ?_
  have hB2 : l.map (·.dst) = dsts := by
    have := hB
    simp only [relyB, Bool.and_eq_true, decide_eq_true_eq] at this
    simpa using this.1.2
  have hlen : l.length = dsts.length := by rw [← hB2]; simp
  refine wpAny_rely (I := I) (a0 := a) (R := R) hB hstep (fun vs W h1 h2 h3 => hend vs W h1 h2 (factsR_of fun i hi => h3 i (by rw [hlen]; simpa using hi))) _ _ a _ (dsts.map (slotOf a)) (by simp) ⟨by simp, hI, by simp, (putAll_orig a dsts).symm, fun i hi => ?_, fun i d v _ h1 h2 => ?_, fun i hi => ?_⟩
  · rw [getD_replicate_false] at hi; cases hi
  · rw [List.getElem?_map, h1] at h2; simpa using h2.symm
  · rw [getD_replicate_false] at hi; cases hi

end Go.Proofs.YtchbeheekahhiaaDoor
