
import Derived.Test.YtacicanjmleikaaGreatDoorGr1
/- A part of the proof. -/
namespace Go.Proofs.YtacicanjmleikaaGreatDoor
open Go.RowKit Go.Sort
set_option linter.unusedSimpArgs false
set_option linter.unusedVariables false
structure RelL (S : World → World → Prop) where
 ref : Option Nat
 r : Value → Value → World → Prop
 stab : ∀ u v W W', r u v W → S W W' → r u v W'
def RelL.one {S : World → World → Prop} (x : Value) : RelL S := ⟨none, fun _ v _ => v = x, fun _ _ _ _ h _ => h⟩
def RelL.any {S : World → World → Prop} : RelL S := ⟨none, fun _ _ _ => True, fun _ _ _ _ h _ => h⟩
def RelL.law {S : World → World → Prop} (p : Value → Prop) : RelL S := ⟨none, fun _ v _ => p v, fun _ _ _ _ h _ => h⟩
def RelL.blk (zs : Array Value) (T : TypeId) (mk : Nat → Value) : RelL Ext := ⟨none, fun _ v W => ∃ b, v = mk b ∧ W.heap[b]? = some (.cells zs T (0, 0)), fun _ v W W' ⟨b, h1, h2⟩ hE => ⟨b, h1, (hE.block b (Array.getElem?_eq_some_iff.1 h2).1).trans h2⟩⟩
def refV (vs : List Value) : Option Nat → Value
 | some j => vs.getD j undef
 | none => undef
def atL {S : World → World → Prop} (R : List (RelL S)) (vs : List Value) (W : World) (i : Nat) : Prop :=
 match R[i]?, vs[i]? with
 | some r, some v => r.r (refV vs r.ref) v W
 | _, _ => True
def factsL {S : World → World → Prop} (R : List (RelL S)) (vs : List Value) (W : World) : List Nat → Prop
 | [] => True
 | d :: ds => atL R vs W d ∧ factsL R vs W ds
theorem factsL_of {S : World → World → Prop} {R : List (RelL S)} {vs : List Value} {W : World} : ∀ {ds : List Nat}, (∀ d ∈ ds, atL R vs W d) → factsL R vs W ds
 | [], _ => trivial
 | d :: ds, h => ⟨h d (by simp), factsL_of fun e he => h e (by simp [he])⟩
def keepsL {S : World → World → Prop} (R : List (RelL S)) (lose : List Nat) (W W' : World) : Prop := ∀ j r, R[j]? = some r → j ∉ lose → ∀ u v, r.r u v W → r.r u v W'
def relyQL {S : World → World → Prop} (Q : Exit → Act → World → Prop) (I : World → Prop) (R : List (RelL S)) (lose : List Nat) (vs : List Value) (a : Act) (d : Option Tmp) (r : RelL S) (W : World) : Exit → Act → World → Prop
 | .normal, a', W' => ∃ v, a' = a.put d v ∧ r.r (refV vs r.ref) v W' ∧ (S W W' ∨ keepsL R lose W W') ∧ I W'
 | e, a', W' => Q e a' W'
def stepsL {S : World → World → Prop} (P : Program) (Q : Exit → Act → World → Prop) (I : World → Prop) (a : Act) (ops : Array Oper) (n : Nat) (dsts : List (Option Tmp)) (R : List (RelL S)) : List Oper → List (Option Tmp) → List (RelL S) → List (List Nat) → List (List Nat) → Prop
 | o :: l, d :: ds, r :: rs, dep :: deps, los :: loses =>
  (∀ vs W, vs.length = n → I W → factsL R vs W dep → wpList P ops (relyQL Q I R los vs (putAll a dsts vs) d r W) [o] (putAll a dsts vs) W) ∧ stepsL P Q I a ops n dsts R l ds rs deps loses
 | [], [], [], [], [] => True
 | _, _, _, _, _ => False
theorem stepsL_at {S : World → World → Prop} {P : Program} {Q : Exit → Act → World → Prop} {I : World → Prop} {a : Act} {ops : Array Oper} {n : Nat} {dsts : List (Option Tmp)} {R : List (RelL S)} :
  ∀ {l : List Oper} {ds : List (Option Tmp)} {rs : List (RelL S)} {deps loses : List (List Nat)}, stepsL P Q I a ops n dsts R l ds rs deps loses → ∀ (i : Nat) (o : Oper), l[i]? = some o →
   ∃ d r, ds[i]? = some d ∧ rs[i]? = some r ∧ ∀ vs W, vs.length = n → I W → factsL R vs W (deps.getD i []) → wpList P ops (relyQL Q I R (loses.getD i []) vs (putAll a dsts vs) d r W) [o] (putAll a dsts vs) W
 | o :: l, d :: ds, r :: rs, dep :: deps, los :: loses, h, 0, o', ho => by
  obtain rfl : o = o' := by simpa using ho
  exact ⟨d, r, rfl, rfl, by simpa using h.1⟩
 | o :: l, d :: ds, r :: rs, dep :: deps, los :: loses, h, i + 1, o', ho => by
  obtain ⟨d', r', h1, h2, h3⟩ := stepsL_at h.2 i o' (by simpa using ho)
  exact ⟨d', r', by simpa using h1, by simpa using h2, by simpa using h3⟩
 | [], [], [], [], [], _, i, o', ho => by simp at ho
def relyBL (ops : Array Oper) (dsts : List (Option Tmp)) (deps reads : List (List Nat)) (refs : List (Option Nat)) (loses : List (List Nat)) : Bool :=
 (List.range ops.size).all (fun i => match ops[i]? with
  | none => false
  | some o => o.after.all (fun e => !Region.binds .any e || decide (e.on < i)) &&
   (deps.getD i []).all (fun j => o.after.any fun e => Region.binds .any e && (e.on == j || (deps.getD e.on []).contains j)) &&
   (reads.getD i []).all (fun j => (deps.getD i []).contains j) &&
   (match refs.getD i none with | none => true | some j => (deps.getD i []).contains j) &&
   (loses.getD i []).all (fun j => j == i || (List.range ops.size).all fun k => !(reads.getD k []).contains j || k == i || (deps.getD i []).contains k)) &&
 decide (ops.toList.map (·.dst) = dsts) && distinctB dsts
structure RelyInvL {S : World → World → Prop} (I : World → Prop) (a0 : Act) (ops : Array Oper) (dsts : List (Option Tmp)) (R : List (RelL S)) (deps loses : List (List Nat)) (listed : Array Bool) (a : Act) (W : World) (vs : List Value) : Prop where
 size : listed.size = ops.size
 inv : I W
 len : vs.length = dsts.length
 act : a = putAll a0 dsts vs
 done : ∀ i, listed.getD i false = true → (∀ m, listed.getD m false = true → m ≠ i → i ∉ loses.getD m []) → atL R vs W i
 dep : ∀ i, listed.getD i false = true → ∀ j ∈ deps.getD i [], listed.getD j false = true
theorem all_listedL {ops : Array Oper} {dsts : List (Option Tmp)} {deps reads : List (List Nat)} {refs : List (Option Nat)} {loses : List (List Nat)} (hB : relyBL ops dsts deps reads refs loses = true) {listed : Array Bool} (hs : listed.size = ops.size) (hr : Region.ready .any ops listed = []) : ∀ i, i < ops.size → listed.getD i false = true := by
 intro i
 induction i using Nat.strongRecOn with
 | _ i ih =>
  intro hi
  cases h : listed.getD i false with
  | true => rfl
  | false =>
   exfalso
   have : i ∈ Region.ready .any ops listed := by
    refine mem_ready.2 ⟨getD_in (by omega) h, ops[i], by simp [hi], fun e he hb => ?_⟩
    simp only [relyBL, Bool.and_eq_true, List.all_eq_true, List.mem_range] at hB
    have h1 := hB.1.1 i hi
    rw [Array.getElem?_eq_getElem hi] at h1
    simp only [Bool.and_eq_true] at h1
    have h2 := Array.all_eq_true'.1 h1.1.1.1.1 e he
    simp only [hb, Bool.not_true, Bool.false_or, decide_eq_true_eq] at h2
    exact ih _ h2 (by omega)
   rw [hr] at this
   cases this
theorem refV_set {vs : List Value} {i : Nat} {v : Value} {o : Option Nat} (h : o ≠ some i) : refV (vs.set i v) o = refV vs o := by
 cases o with
 | none => rfl
 | some j =>
  have : i ≠ j := fun e => h (by rw [e])
  simp [refV, List.getD_eq_getElem?_getD, List.getElem?_set_ne this]
theorem wpAny_relyL {S : World → World → Prop} {P : Program} {Q : Exit → Act → World → Prop} {I : World → Prop} {a0 : Act} {l : List Oper} {dsts : List (Option Tmp)} {R : List (RelL S)} {deps reads : List (List Nat)} {refs : List (Option Nat)} {loses : List (List Nat)}
  (hB : relyBL l.toArray dsts deps reads refs loses = true) (hrefs : R.map (·.ref) = refs) (hstep : stepsL P Q I a0 l.toArray dsts.length dsts R l dsts R reads loses)
  (hend : ∀ vs W, vs.length = dsts.length → I W → (∀ i, i < l.length → (∀ m, m < l.length → m ≠ i → i ∉ loses.getD m []) → atL R vs W i) → Q .normal (putAll a0 dsts vs) W) :
  ∀ (fuel : Nat) (listed : Array Bool) (a : Act) (W : World) (vs : List Value), listed.toList.count false = fuel → RelyInvL I a0 l.toArray dsts R deps loses listed a W vs → wpAny P .any l.toArray Q fuel listed a W := by
 have lt_of_listed : ∀ (listed : Array Bool) (a : Act) (W : World) (vs : List Value), RelyInvL I a0 l.toArray dsts R deps loses listed a W vs → ∀ m, listed.getD m false = true → m < l.length := by
  intro listed a W vs inv m hm
  rcases Nat.lt_or_ge m listed.size with h | h
  ·rw [inv.size] at h; simpa using h
  ·simp [Array.getElem?_eq_none h] at hm
 have fin : ∀ (listed : Array Bool) (a : Act) (W : World) (vs : List Value), RelyInvL I a0 l.toArray dsts R deps loses listed a W vs → Region.ready .any l.toArray listed = [] → Q .normal a W := by
  intro listed a W vs inv hr
  rw [inv.act]
  exact hend vs W inv.len inv.inv fun i hi hm => inv.done i (all_listedL hB inv.size hr i (by simpa using hi)) fun m hl hne => hm m (lt_of_listed listed a W vs inv m hl) hne
 intro fuel
 induction fuel with
 | zero =>
  intro listed a W vs hc inv
  have hr : Region.ready .any l.toArray listed = [] := by
   apply List.eq_nil_iff_forall_not_mem.2
   intro i hi
   have := count_set (mem_ready.1 hi).1
   omega
  exact ⟨hr, fin listed a W vs inv hr⟩
 | succ fuel ih =>
  intro listed a W vs hc inv
  refine ⟨fin listed a W vs inv, fun i hi => ?_⟩
  obtain ⟨hun, o, ho, hall⟩ := mem_ready.1 hi
  have hil : i < l.length := by have := (Array.getElem?_eq_some_iff.1 ho).1; simpa using this
  have ho' : l[i]? = some o := by simpa using ho
  obtain ⟨d, r, hd, hr, hst⟩ := stepsL_at hstep i o ho'
  have hB' := hB
  simp only [relyBL, Bool.and_eq_true, List.all_eq_true, List.mem_range, decide_eq_true_eq] at hB'
  obtain ⟨⟨hB1, hB2⟩, hB3⟩ := hB'
  have hB4 := hB1 i (by simpa using hil)
  rw [ho] at hB4
  simp only [Bool.and_eq_true, List.all_eq_true] at hB4
  obtain ⟨⟨⟨⟨_, hdep⟩, hread⟩, hrefi⟩, hlose⟩ := hB4
  have hdst : o.dst = d := by
   have : (l.map (·.dst))[i]? = some d := by rw [show l.map (·.dst) = dsts from by simpa using hB2]; exact hd
   simpa [ho'] using this
  have hdepl : ∀ j ∈ deps.getD i [], listed.getD j false = true := by
   intro j hj
   obtain ⟨e, he, hb⟩ := Array.any_eq_true'.1 (hdep j hj)
   simp only [Bool.and_eq_true, Bool.or_eq_true, beq_iff_eq] at hb
   have h1 := hall e he hb.1
   rcases hb.2 with h2 | h2
   ·rw [← h2]; exact h1
   ·exact inv.dep _ h1 j (by simpa using h2)
  have hkept : ∀ j ∈ reads.getD i [], ∀ m, listed.getD m false = true → m ≠ j → j ∉ loses.getD m [] := by
   intro j hj m hm hmj hjm
   have hml := lt_of_listed listed a W vs inv m hm
   have h1 := hB1 m (by simpa using hml)
   have hom : l.toArray[m]? = some (l[m]'hml) := by simp [hml]
   rw [hom] at h1
   simp only [Bool.and_eq_true, List.all_eq_true, List.mem_range] at h1
   have h2 := h1.2 j hjm
   simp only [Bool.or_eq_true, beq_iff_eq, List.all_eq_true, List.mem_range] at h2
   rcases h2 with h2 | h2
   ·exact hmj h2.symm
   replace h2 := h2 i (by simpa using hil)
   simp only [Bool.not_eq_true'] at h2
   rcases h2 with (h2 | h2) | h2
   ·have : (reads.getD i []).contains j = true := by simpa using hj
    rw [this] at h2; cases h2
   ·subst h2; rw [getD_both hun] at hm; cases hm
   ·have := inv.dep m hm i (by simpa using h2)
    rw [getD_both hun] at this; cases this
  have hw := hst vs W inv.len inv.inv (factsL_of fun j hj => inv.done j (hdepl j (by simpa using hread j hj)) (hkept j hj))
  rw [← inv.act] at hw
  have hrefr : ∀ k r', R[k]? = some r' → r'.ref = refs.getD k none := by
   intro k r' hk
   rw [← hrefs, List.getD_eq_getElem?_getD, List.getElem?_map, hk]; rfl
  have key : ∀ a' W', relyQL Q I R (loses.getD i []) vs a d r W .normal a' W' → wpAny P .any l.toArray Q fuel (listed.setIfInBounds i true) a' W' := by
   rintro a' W' ⟨v, h1, h2, h3, h4⟩
   have hvi : i < vs.length := by rw [inv.len]; exact (List.getElem?_eq_some_iff.1 hd).1
   refine ih _ a' W' (vs.set i v) (by have := count_set hun; omega) ⟨by simp [inv.size], h4, by simp [inv.len], ?_, fun k hk hm => ?_, fun k hk j hj => ?_⟩
   ·rw [h1, inv.act]
    exact putAll_put a0 dsts vs i d v hB3 inv.len hd
   ·by_cases hik : i = k
    ·subst hik
     unfold atL
     rw [hr, List.getElem?_set_self hvi]
     have hne : r.ref ≠ some i := by
      intro e
      have h5 := hrefr i r hr
      rw [e] at h5
      rw [← h5] at hrefi
      have := hdepl i (by simpa using hrefi)
      rw [getD_both hun] at this; cases this
     show r.r (refV (vs.set i v) r.ref) v W'
     rw [refV_set hne]
     exact h2
    ·rw [getD_set_ne false hik] at hk
     have hm0 : ∀ m, listed.getD m false = true → m ≠ k → k ∉ loses.getD m [] := fun m hml => hm m (getD_set_true hml)
     have hmi : k ∉ loses.getD i [] := by
      refine hm i ?_ hik
      have hsz : i < listed.size := by rw [inv.size]; simpa using hil
      simp [hsz]
     have := inv.done k hk hm0
     unfold atL at this ⊢
     rw [List.getElem?_set_ne hik]
     split
     ·rename_i r' u h5 h6
      rw [h5, h6] at this
      have hne : r'.ref ≠ some i := by
       intro e
       have hkl := lt_of_listed listed a W vs inv k hk
       have h7 := hB1 k (by simpa using hkl)
       have hok : l.toArray[k]? = some (l[k]'hkl) := by simp [hkl]
       rw [hok] at h7
       simp only [Bool.and_eq_true] at h7
       have h8 := h7.1.2
       rw [← hrefr k r' h5, e] at h8
       have := inv.dep k hk i (by simpa using h8)
       rw [getD_both hun] at this; cases this
      rw [refV_set hne]
      rcases h3 with h3 | h3
      ·exact r'.stab _ u W W' this h3
      ·exact h3 k r' h5 hmi _ u this
     ·trivial
   ·by_cases hik : i = k
    ·subst hik
     exact getD_set_true (hdepl j hj)
    ·rw [getD_set_ne false hik] at hk
     exact getD_set_true (inv.dep k hk j hj)
  unfold wpOp
  simp only [ho]
  unfold wpList at hw
  split
  ·rename_i hwd
   rw [if_pos hwd] at hw
   rcases hw with hw | ⟨hw, hlo⟩
   ·left
    unfold Oper.wp at hw ⊢
    generalize (execOp a.eval o).run P W = res at *
    cases res with
    | ok n w' =>
     cases n <;> simp only [Oper.upon] at hw ⊢ <;>
      first
       | exact key _ _ hw
       | exact Calls.mono hw (fun e w'' he => by cases e <;> first | exact key _ _ he | exact he)
       | exact Rows.mono hw (fun _ _ he => key _ _ he)
    | halt x w' => cases x <;> simp only [Oper.upon] at hw ⊢ <;> exact hw
   ·right
    obtain ⟨a', w', hq⟩ := hlo
    exact ⟨hw, a', w', hq⟩
  ·rename_i hwd
   rw [if_neg hwd] at hw
   exact key _ _ hw
open Go.RowKit Go.Sort
def keepsV (listed : Nat → Bool) (i : Nat) (vs : List Value) (W W' : World) : Nat → List (RelL Ext) → Prop
 | _, [] => True
 | k, r :: R => (listed k = true → k ≠ i → r.r (refV vs r.ref) (vs.getD k undef) W → r.r (refV vs r.ref) (vs.getD k undef) W') ∧ keepsV listed i vs W W' (k + 1) R
theorem keepsV_at {listed : Nat → Bool} {i : Nat} {vs : List Value} {W W' : World} : ∀ {R : List (RelL Ext)} {k : Nat}, keepsV listed i vs W W' k R → ∀ j r, R[j]? = some r → listed (k + j) = true → k + j ≠ i → r.r (refV vs r.ref) (vs.getD (k + j) undef) W → r.r (refV vs r.ref) (vs.getD (k + j) undef) W'
 | [], _, _, j, r, hj, _, _, _ => by simp at hj
 | r0 :: R, k, h, 0, r, hj, hl, hn, hr => by
  obtain rfl : r0 = r := by simpa using hj
  exact h.1 hl hn hr
 | r0 :: R, k, h, j + 1, r, hj, hl, hn, hr => by
  have e : k + (j + 1) = k + 1 + j := by omega
  rw [e] at hl hn hr ⊢
  exact keepsV_at h.2 j r (by simpa using hj) hl hn hr
def distD (fresh : List Bool) (listed : Nat → Bool) (vs : List Value) : Prop := ∀ j k, fresh.getD j false = true → fresh.getD k false = true → j ≠ k → listed j = true → listed k = true → vs.getD j undef ≠ vs.getD k undef
def relyQD (Q : Exit → Act → World → Prop) (I : World → Prop) (R : List (RelL Ext)) (listed : Nat → Bool) (i : Nat) (fr : Bool) (vs : List Value) (a : Act) (d : Option Tmp) (r : RelL Ext) (W : World) : Exit → Act → World → Prop
 | .normal, a', W' => ∃ v, a' = a.put d v ∧ r.r (refV vs r.ref) v W' ∧ (fr = true → v = .pointer (some ⟨W.heap.size, 0, none⟩) ∧ W.heap.size < W'.heap.size) ∧ (Ext W W' ∨ (W.heap.size ≤ W'.heap.size ∧ keepsV listed i vs W W' 0 R)) ∧ I W'
 | e, a', W' => Q e a' W'
section
variable {Q : Exit → Act → World → Prop} {I : World → Prop} {R : List (RelL Ext)} {listed : Nat → Bool} {i : Nat} {vs : List Value} {a : Act} {d : Option Tmp} {r : RelL Ext} {W W' : World} {a' : Act}
end
def stepsD (P : Program) (Q : Exit → Act → World → Prop) (I : World → Prop) (a : Act) (ops : Array Oper) (n : Nat) (dsts : List (Option Tmp)) (R : List (RelL Ext)) (fresh : List Bool) : Nat → List Oper → List (Option Tmp) → List (RelL Ext) → List (List Nat) → List (List Nat) → List Bool → Prop
 | i, o :: l, d :: ds, r :: rs, read :: reads, dep :: deps, fr :: frs =>
  (∀ listed vs W, vs.length = n → I W → factsL R vs W read → (∀ j ∈ dep, listed j = true) → distD fresh listed vs → wpList P ops (relyQD Q I R listed i fr vs (putAll a dsts vs) d r W) [o] (putAll a dsts vs) W) ∧ stepsD P Q I a ops n dsts R fresh (i + 1) l ds rs reads deps frs
 | _, [], [], [], [], [], [] => True
 | _, _, _, _, _, _, _ => False
section
variable {P : Program} {Q : Exit → Act → World → Prop} {I : World → Prop} {a : Act} {ops : Array Oper} {n : Nat} {dsts : List (Option Tmp)} {R : List (RelL Ext)} {fresh : List Bool}
theorem stepsD_at : ∀ {l : List Oper} {ds : List (Option Tmp)} {rs : List (RelL Ext)} {reads deps : List (List Nat)} {frs : List Bool} {k : Nat}, stepsD P Q I a ops n dsts R fresh k l ds rs reads deps frs → ∀ (i : Nat) (o : Oper), l[i]? = some o →
      ∃ d r, ds[i]? = some d ∧ rs[i]? = some r ∧ ∀ listed vs W, vs.length = n → I W → factsL R vs W (reads.getD i []) → (∀ j ∈ deps.getD i [], listed j = true) → distD fresh listed vs → wpList P ops (relyQD Q I R listed (k + i) (frs.getD i false) vs (putAll a dsts vs) d r W) [o] (putAll a dsts vs) W
  | o :: l, d :: ds, r :: rs, read :: reads, dep :: deps, fr :: frs, k, h, 0, o', ho => by
    obtain rfl : o = o' := by simpa using ho
    exact ⟨d, r, rfl, rfl, by simpa using h.1⟩
  | o :: l, d :: ds, r :: rs, read :: reads, dep :: deps, fr :: frs, k, h, i + 1, o', ho => by
    obtain ⟨d', r', h1, h2, h3⟩ := stepsD_at h.2 i o' (by simpa using ho)
    refine ⟨d', r', by simpa using h1, by simpa using h2, ?_⟩
    rw [show k + (i + 1) = k + 1 + i by omega]
    simpa using h3
  | [], [], [], [], [], [], _, _, i, o', ho => by simp at ho
end
def relyBD (ops : Array Oper) (dsts : List (Option Tmp)) (deps reads : List (List Nat)) (refs : List (Option Nat)) : Bool :=
 (List.range ops.size).all (fun i => match ops[i]? with
  | none => false
  | some o => o.after.all (fun e => !Region.binds .any e || decide (e.on < i)) &&
   (deps.getD i []).all (fun j => o.after.any fun e => Region.binds .any e && (e.on == j || (deps.getD e.on []).contains j)) &&
   (reads.getD i []).all (fun j => (deps.getD i []).contains j) &&
   (match refs.getD i none with | none => true | some j => (deps.getD i []).contains j)) &&
 decide (ops.toList.map (·.dst) = dsts) && distinctB dsts
structure RelyInvD (I : World → Prop) (a0 : Act) (ops : Array Oper) (dsts : List (Option Tmp)) (R : List (RelL Ext)) (deps : List (List Nat)) (fresh : List Bool) (listed : Array Bool) (a : Act) (W : World) (vs : List Value) : Prop where
 size : listed.size = ops.size
 inv : I W
 len : vs.length = dsts.length
 act : a = putAll a0 dsts vs
 done : ∀ i, listed.getD i false = true → atL R vs W i
 dep : ∀ i, listed.getD i false = true → ∀ j ∈ deps.getD i [], listed.getD j false = true
 fr : ∀ i, fresh.getD i false = true → listed.getD i false = true → ∃ b, vs.getD i undef = .pointer (some ⟨b, 0, none⟩) ∧ b < W.heap.size
 dist : distD fresh (fun i => listed.getD i false) vs
theorem all_listedD {ops : Array Oper} {dsts : List (Option Tmp)} {deps reads : List (List Nat)} {refs : List (Option Nat)} (hB : relyBD ops dsts deps reads refs = true) {listed : Array Bool} (hs : listed.size = ops.size) (hr : Region.ready .any ops listed = []) : ∀ i, i < ops.size → listed.getD i false = true := by
 intro i
 induction i using Nat.strongRecOn with
 | _ i ih =>
  intro hi
  cases h : listed.getD i false with
  | true => rfl
  | false =>
   exfalso
   have : i ∈ Region.ready .any ops listed := by
    refine mem_ready.2 ⟨getD_in (by omega) h, ops[i], by simp [hi], fun e he hb => ?_⟩
    simp only [relyBD, Bool.and_eq_true, List.all_eq_true, List.mem_range] at hB
    have h1 := hB.1.1 i hi
    rw [Array.getElem?_eq_getElem hi] at h1
    simp only [Bool.and_eq_true] at h1
    have h2 := Array.all_eq_true'.1 h1.1.1.1 e he
    simp only [hb, Bool.not_true, Bool.false_or, decide_eq_true_eq] at h2
    exact ih _ h2 (by omega)
   rw [hr] at this
   cases this
theorem getD_set_self {vs : List Value} {i : Nat} {v : Value} (h : i < vs.length) : (vs.set i v).getD i undef = v := by
 simp [List.getD_eq_getElem?_getD, List.getElem?_set_self h]
theorem getD_set_other {vs : List Value} {i k : Nat} {v : Value} (h : i ≠ k) : (vs.set i v).getD k undef = vs.getD k undef := by
 simp [List.getD_eq_getElem?_getD, List.getElem?_set_ne h]
theorem wpAny_relyD {P : Program} {Q : Exit → Act → World → Prop} {I : World → Prop} {a0 : Act} {l : List Oper} {dsts : List (Option Tmp)} {R : List (RelL Ext)} {deps reads : List (List Nat)} {refs : List (Option Nat)} {fresh : List Bool}
  (hB : relyBD l.toArray dsts deps reads refs = true) (hrefs : R.map (·.ref) = refs) (hstep : stepsD P Q I a0 l.toArray dsts.length dsts R fresh 0 l dsts R reads deps fresh)
  (hend : ∀ vs W, vs.length = dsts.length → I W → (∀ i, i < l.length → atL R vs W i) → distD fresh (fun i => decide (i < l.length)) vs → Q .normal (putAll a0 dsts vs) W) :
  ∀ (fuel : Nat) (listed : Array Bool) (a : Act) (W : World) (vs : List Value), listed.toList.count false = fuel → RelyInvD I a0 l.toArray dsts R deps fresh listed a W vs → wpAny P .any l.toArray Q fuel listed a W := by
 have lt_of_listed : ∀ (listed : Array Bool) (a : Act) (W : World) (vs : List Value), RelyInvD I a0 l.toArray dsts R deps fresh listed a W vs → ∀ m, listed.getD m false = true → m < l.length := by
  intro listed a W vs inv m hm
  rcases Nat.lt_or_ge m listed.size with h | h
  ·rw [inv.size] at h; simpa using h
  ·simp [Array.getElem?_eq_none h] at hm
 have fin : ∀ (listed : Array Bool) (a : Act) (W : World) (vs : List Value), RelyInvD I a0 l.toArray dsts R deps fresh listed a W vs → Region.ready .any l.toArray listed = [] → Q .normal a W := by
  intro listed a W vs inv hr
  have hall := all_listedD hB inv.size hr
  rw [inv.act]
  refine hend vs W inv.len inv.inv (fun i hi => inv.done i (hall i (by simpa using hi))) (fun j k h1 h2 h3 h4 h5 => inv.dist j k h1 h2 h3 (hall j (by simpa using h4)) (hall k (by simpa using h5)))
 intro fuel
 induction fuel with
 | zero =>
  intro listed a W vs hc inv
  have hr : Region.ready .any l.toArray listed = [] := by
   apply List.eq_nil_iff_forall_not_mem.2
   intro i hi
   have := count_set (mem_ready.1 hi).1
   omega
  exact ⟨hr, fin listed a W vs inv hr⟩
 | succ fuel ih =>
  intro listed a W vs hc inv
  refine ⟨fin listed a W vs inv, fun i hi => ?_⟩
  obtain ⟨hun, o, ho, hall⟩ := mem_ready.1 hi
  have hil : i < l.length := by have := (Array.getElem?_eq_some_iff.1 ho).1; simpa using this
  have ho' : l[i]? = some o := by simpa using ho
  obtain ⟨d, r, hd, hr, hst⟩ := stepsD_at hstep i o ho'
  rw [Nat.zero_add] at hst
  have hB' := hB
  simp only [relyBD, Bool.and_eq_true, List.all_eq_true, List.mem_range, decide_eq_true_eq] at hB'
  obtain ⟨⟨hB1, hB2⟩, hB3⟩ := hB'
  have hB4 := hB1 i (by simpa using hil)
  rw [ho] at hB4
  simp only [Bool.and_eq_true, List.all_eq_true] at hB4
  obtain ⟨⟨⟨_, hdep⟩, hread⟩, hrefi⟩ := hB4
  have hdst : o.dst = d := by
   have : (l.map (·.dst))[i]? = some d := by rw [show l.map (·.dst) = dsts from by simpa using hB2]; exact hd
   simpa [ho'] using this
  have hdepl : ∀ j ∈ deps.getD i [], listed.getD j false = true := by
   intro j hj
   obtain ⟨e, he, hb⟩ := Array.any_eq_true'.1 (hdep j hj)
   simp only [Bool.and_eq_true, Bool.or_eq_true, beq_iff_eq] at hb
   have h1 := hall e he hb.1
   rcases hb.2 with h2 | h2
   ·rw [← h2]; exact h1
   ·exact inv.dep _ h1 j (by simpa using h2)
  have hw := hst (fun k => listed.getD k false) vs W inv.len inv.inv (factsL_of fun j hj => inv.done j (hdepl j (by simpa using hread j hj))) hdepl inv.dist
  rw [← inv.act] at hw
  have hrefr : ∀ k r', R[k]? = some r' → r'.ref = refs.getD k none := by
   intro k r' hk
   rw [← hrefs, List.getD_eq_getElem?_getD, List.getElem?_map, hk]; rfl
  have key : ∀ a' W', relyQD Q I R (fun k => listed.getD k false) i (fresh.getD i false) vs a d r W .normal a' W' → wpAny P .any l.toArray Q fuel (listed.setIfInBounds i true) a' W' := by
   rintro a' W' ⟨v, h1, h2, hfr, h3, h4⟩
   have hvi : i < vs.length := by rw [inv.len]; exact (List.getElem?_eq_some_iff.1 hd).1
   have hsz : W.heap.size ≤ W'.heap.size := by
    rcases h3 with h | h
    ·exact h.sz
    ·exact h.1
   refine ih _ a' W' (vs.set i v) (by have := count_set hun; omega) ⟨by simp [inv.size], h4, by simp [inv.len], ?_, fun k hk => ?_, fun k hk j hj => ?_, fun k hkf hk => ?_, fun j k hjf hkf hjk hj hk => ?_⟩
   ·rw [h1, inv.act]
    exact putAll_put a0 dsts vs i d v hB3 inv.len hd
   ·by_cases hik : i = k
    ·subst hik
     unfold atL
     rw [hr, List.getElem?_set_self hvi]
     have hne : r.ref ≠ some i := by
      intro e
      have h5 := hrefr i r hr
      rw [e] at h5
      rw [← h5] at hrefi
      have := hdepl i (by simpa using hrefi)
      rw [getD_both hun] at this; cases this
     show r.r (refV (vs.set i v) r.ref) v W'
     rw [refV_set hne]
     exact h2
    ·rw [getD_set_ne false hik] at hk
     have := inv.done k hk
     unfold atL at this ⊢
     rw [List.getElem?_set_ne hik]
     split
     ·rename_i r' u h5 h6
      rw [h5, h6] at this
      have hne : r'.ref ≠ some i := by
       intro e
       have hkl := lt_of_listed listed a W vs inv k hk
       have h7 := hB1 k (by simpa using hkl)
       have hok : l.toArray[k]? = some (l[k]'hkl) := by simp [hkl]
       rw [hok] at h7
       simp only [Bool.and_eq_true] at h7
       have h8 := h7.2
       rw [← hrefr k r' h5, e] at h8
       have := inv.dep k hk i (by simpa using h8)
       rw [getD_both hun] at this; cases this
      rw [refV_set hne]
      rcases h3 with h3 | h3
      ·exact r'.stab _ u W W' this h3
      ·have hu : vs.getD k undef = u := by rw [List.getD_eq_getElem?_getD, h6]; rfl
       have := keepsV_at h3.2 k r' h5 (by simpa using hk) (by omega) (by rw [Nat.zero_add, hu]; exact this)
       rwa [Nat.zero_add, hu] at this
     ·trivial
   ·by_cases hik : i = k
    ·subst hik
     exact getD_set_true (hdepl j hj)
    ·rw [getD_set_ne false hik] at hk
     exact getD_set_true (inv.dep k hk j hj)
   ·by_cases hik : i = k
    ·subst hik
     obtain ⟨e1, e2⟩ := hfr hkf
     exact ⟨_, by rw [getD_set_self hvi, e1], e2⟩
    ·rw [getD_set_ne false hik] at hk
     obtain ⟨b, e1, e2⟩ := inv.fr k hkf hk
     exact ⟨b, by rw [getD_set_other hik, e1], by omega⟩
   ·have hfresh : ∀ m, fresh.getD m false = true → i ≠ m → listed.getD m false = true → fresh.getD i false = true → v ≠ vs.getD m undef := by
     intro m hm him hlm hfi e
     obtain ⟨e1, _⟩ := hfr hfi
     obtain ⟨b, e3, e4⟩ := inv.fr m hm hlm
     rw [e1, e3] at e
     injection e with e
     injection e with e
     injection e with e
     omega
    by_cases hij : i = j
    ·subst hij
     rw [getD_set_self hvi, getD_set_other hjk]
     replace hk : (listed.setIfInBounds i true).getD k false = true := hk
     rw [getD_set_ne false hjk] at hk
     exact hfresh k hkf hjk hk hjf
    ·by_cases hik : i = k
     ·subst hik
      rw [getD_set_self hvi, getD_set_other hij]
      replace hj : (listed.setIfInBounds i true).getD j false = true := hj
      rw [getD_set_ne false hij] at hj
      exact fun e => hfresh j hjf hij hj hkf e.symm
     ·rw [getD_set_other hij, getD_set_other hik]
      replace hk : (listed.setIfInBounds i true).getD k false = true := hk
      replace hj : (listed.setIfInBounds i true).getD j false = true := hj
      rw [getD_set_ne false hik] at hk
      rw [getD_set_ne false hij] at hj
      exact inv.dist j k hjf hkf hjk hj hk
  unfold wpOp
  simp only [ho]
  unfold wpList at hw
  split
  ·rename_i hwd
   rw [if_pos hwd] at hw
   rcases hw with hw | ⟨hw, hlo⟩
   ·left
    unfold Oper.wp at hw ⊢
    generalize (execOp a.eval o).run P W = res at *
    cases res with
    | ok n w' =>
     cases n <;> simp only [Oper.upon] at hw ⊢ <;>
      first
       | exact key _ _ hw
       | exact Calls.mono hw (fun e w'' he => by cases e <;> first | exact key _ _ he | exact he)
       | exact Rows.mono hw (fun _ _ he => key _ _ he)
    | halt x w' => cases x <;> simp only [Oper.upon] at hw ⊢ <;> exact hw
   ·right
    obtain ⟨a', w', hq⟩ := hlo
    exact ⟨hw, a', w', hq⟩
  ·rename_i hwd
   rw [if_neg hwd] at hw
   exact key _ _ hw
open Go.RowKit Go.Sort
def updE (listed : Nat → Bool) (i : Nat) : Nat → Bool := fun k => listed k || k == i
def relyQE (Q : Exit → Act → World → Prop) (I : (Nat → Bool) → World → Prop) (R : List (RelL Ext)) (listed : Nat → Bool) (i : Nat) (fr : Bool) (vs : List Value) (a : Act) (d : Option Tmp) (r : RelL Ext) (W : World) : Exit → Act → World → Prop
 | .normal, a', W' => ∃ v, a' = a.put d v ∧ r.r (refV vs r.ref) v W' ∧ (fr = true → v = .pointer (some ⟨W.heap.size, 0, none⟩) ∧ W.heap.size < W'.heap.size) ∧ (Ext W W' ∨ (W.heap.size ≤ W'.heap.size ∧ keepsV listed i vs W W' 0 R)) ∧ I (updE listed i) W'
 | e, a', W' => Q e a' W'
section
variable {Q : Exit → Act → World → Prop} {I : (Nat → Bool) → World → Prop} {R : List (RelL Ext)} {listed : Nat → Bool} {i : Nat} {vs : List Value} {a : Act} {d : Option Tmp} {r : RelL Ext} {W W' : World} {a' : Act}
theorem relyE_done (v : Value) (h1 : a' = a.put d v) (h2 : r.r (refV vs r.ref) v W') (h3 : Ext W W') (h4 : I (updE listed i) W') : relyQE Q I R listed i false vs a d r W .normal a' W' :=
 ⟨v, h1, h2, fun h => (by cases h), .inl h3, h4⟩
theorem relyE_new (h1 : a' = a.put d (.pointer (some ⟨W.heap.size, 0, none⟩))) (h2 : r.r (refV vs r.ref) (.pointer (some ⟨W.heap.size, 0, none⟩)) W') (h3 : Ext W W') (h5 : W.heap.size < W'.heap.size) (h4 : I (updE listed i) W') : relyQE Q I R listed i true vs a d r W .normal a' W' :=
 ⟨_, h1, h2, fun _ => ⟨rfl, h5⟩, .inl h3, h4⟩
theorem relyE_store (v : Value) (h1 : a' = a.put d v) (h2 : r.r (refV vs r.ref) v W') (h5 : W.heap.size ≤ W'.heap.size) (h3 : keepsV listed i vs W W' 0 R) (h4 : I (updE listed i) W') : relyQE Q I R listed i false vs a d r W .normal a' W' :=
 ⟨v, h1, h2, fun h => (by cases h), .inr ⟨h5, h3⟩, h4⟩
end
def stepsE (P : Program) (Q : Exit → Act → World → Prop) (I : (Nat → Bool) → World → Prop) (a : Act) (ops : Array Oper) (n : Nat) (dsts : List (Option Tmp)) (R : List (RelL Ext)) (DP : List (List Nat)) (fresh : List Bool) : Nat → List Oper → List (Option Tmp) → List (RelL Ext) → List (List Nat) → List (List Nat) → List Bool → Prop
 | i, o :: l, d :: ds, r :: rs, read :: reads, dep :: deps, fr :: frs =>
  (∀ listed vs W, vs.length = n → I listed W → factsL R vs W read → (∀ j ∈ dep, listed j = true) → distD fresh listed vs → (∀ j, listed j = true → i ∉ DP.getD j []) → listed i = false → wpList P ops (relyQE Q I R listed i fr vs (putAll a dsts vs) d r W) [o] (putAll a dsts vs) W) ∧ stepsE P Q I a ops n dsts R DP fresh (i + 1) l ds rs reads deps frs
 | _, [], [], [], [], [], [] => True
 | _, _, _, _, _, _, _ => False
section
variable {P : Program} {Q : Exit → Act → World → Prop} {I : (Nat → Bool) → World → Prop} {a : Act} {ops : Array Oper} {n : Nat} {dsts : List (Option Tmp)} {R : List (RelL Ext)} {DP : List (List Nat)} {fresh : List Bool}
theorem stepsE_cons {i : Nat} {o : Oper} {l : List Oper} {d : Option Tmp} {ds : List (Option Tmp)} {r : RelL Ext} {rs : List (RelL Ext)} {read : List Nat} {reads : List (List Nat)} {dep : List Nat} {deps : List (List Nat)} {fr : Bool} {frs : List Bool}
  (h1 : ∀ listed vs W, vs.length = n → I listed W → factsL R vs W read → (∀ j ∈ dep, listed j = true) → distD fresh listed vs → (∀ j, listed j = true → i ∉ DP.getD j []) → listed i = false → wpList P ops (relyQE Q I R listed i fr vs (putAll a dsts vs) d r W) [o] (putAll a dsts vs) W) (h2 : stepsE P Q I a ops n dsts R DP fresh (i + 1) l ds rs reads deps frs) :
  stepsE P Q I a ops n dsts R DP fresh i (o :: l) (d :: ds) (r :: rs) (read :: reads) (dep :: deps) (fr :: frs) := ⟨h1, h2⟩
theorem stepsE_at : ∀ {l : List Oper} {ds : List (Option Tmp)} {rs : List (RelL Ext)} {reads deps : List (List Nat)} {frs : List Bool} {k : Nat}, stepsE P Q I a ops n dsts R DP fresh k l ds rs reads deps frs → ∀ (i : Nat) (o : Oper), l[i]? = some o →
      ∃ d r, ds[i]? = some d ∧ rs[i]? = some r ∧ ∀ listed vs W, vs.length = n → I listed W → factsL R vs W (reads.getD i []) → (∀ j ∈ deps.getD i [], listed j = true) → distD fresh listed vs → (∀ j, listed j = true → k + i ∉ DP.getD j []) → listed (k + i) = false → wpList P ops (relyQE Q I R listed (k + i) (frs.getD i false) vs (putAll a dsts vs) d r W) [o] (putAll a dsts vs) W
  | o :: l, d :: ds, r :: rs, read :: reads, dep :: deps, fr :: frs, k, h, 0, o', ho => by
    obtain rfl : o = o' := by simpa using ho
    exact ⟨d, r, rfl, rfl, by simpa using h.1⟩
  | o :: l, d :: ds, r :: rs, read :: reads, dep :: deps, fr :: frs, k, h, i + 1, o', ho => by
    obtain ⟨d', r', h1, h2, h3⟩ := stepsE_at h.2 i o' (by simpa using ho)
    refine ⟨d', r', by simpa using h1, by simpa using h2, ?_⟩
    rw [show k + (i + 1) = k + 1 + i by omega]
    simpa using h3
  | [], [], [], [], [], [], _, _, i, o', ho => by simp at ho
end
structure RelyInvE (I : (Nat → Bool) → World → Prop) (a0 : Act) (ops : Array Oper) (dsts : List (Option Tmp)) (R : List (RelL Ext)) (deps : List (List Nat)) (fresh : List Bool) (listed : Array Bool) (a : Act) (W : World) (vs : List Value) : Prop where
 size : listed.size = ops.size
 inv : I (fun k => listed.getD k false) W
 len : vs.length = dsts.length
 act : a = putAll a0 dsts vs
 done : ∀ i, listed.getD i false = true → atL R vs W i
 dep : ∀ i, listed.getD i false = true → ∀ j ∈ deps.getD i [], listed.getD j false = true
 fr : ∀ i, fresh.getD i false = true → listed.getD i false = true → ∃ b, vs.getD i undef = .pointer (some ⟨b, 0, none⟩) ∧ b < W.heap.size
 dist : distD fresh (fun i => listed.getD i false) vs
theorem wpAny_relyE {P : Program} {Q : Exit → Act → World → Prop} {I : (Nat → Bool) → World → Prop} {a0 : Act} {l : List Oper} {dsts : List (Option Tmp)} {R : List (RelL Ext)} {deps reads : List (List Nat)} {refs : List (Option Nat)} {fresh : List Bool}
  (hB : relyBD l.toArray dsts deps reads refs = true) (hrefs : R.map (·.ref) = refs) (hstep : stepsE P Q I a0 l.toArray dsts.length dsts R deps fresh 0 l dsts R reads deps fresh)
  (hend : ∀ listed vs W, vs.length = dsts.length → (∀ i, i < l.length → listed i = true) → I listed W → (∀ i, i < l.length → atL R vs W i) → distD fresh (fun i => decide (i < l.length)) vs → Q .normal (putAll a0 dsts vs) W) :
  ∀ (fuel : Nat) (listed : Array Bool) (a : Act) (W : World) (vs : List Value), listed.toList.count false = fuel → RelyInvE I a0 l.toArray dsts R deps fresh listed a W vs → wpAny P .any l.toArray Q fuel listed a W := by
 have lt_of_listed : ∀ (listed : Array Bool) (a : Act) (W : World) (vs : List Value), RelyInvE I a0 l.toArray dsts R deps fresh listed a W vs → ∀ m, listed.getD m false = true → m < l.length := by
  intro listed a W vs inv m hm
  rcases Nat.lt_or_ge m listed.size with h | h
  ·rw [inv.size] at h; simpa using h
  ·simp [Array.getElem?_eq_none h] at hm
 have fin : ∀ (listed : Array Bool) (a : Act) (W : World) (vs : List Value), RelyInvE I a0 l.toArray dsts R deps fresh listed a W vs → Region.ready .any l.toArray listed = [] → Q .normal a W := by
  intro listed a W vs inv hr
  have hall := all_listedD hB inv.size hr
  rw [inv.act]
  refine hend (fun k => listed.getD k false) vs W inv.len (fun i hi => hall i (by simpa using hi)) inv.inv (fun i hi => inv.done i (hall i (by simpa using hi))) (fun j k h1 h2 h3 h4 h5 => inv.dist j k h1 h2 h3 (hall j (by simpa using h4)) (hall k (by simpa using h5)))
 intro fuel
 induction fuel with
 | zero =>
  intro listed a W vs hc inv
  have hr : Region.ready .any l.toArray listed = [] := by
   apply List.eq_nil_iff_forall_not_mem.2
   intro i hi
   have := count_set (mem_ready.1 hi).1
   omega
  exact ⟨hr, fin listed a W vs inv hr⟩
 | succ fuel ih =>
  intro listed a W vs hc inv
  refine ⟨fin listed a W vs inv, fun i hi => ?_⟩
  obtain ⟨hun, o, ho, hall⟩ := mem_ready.1 hi
  have hil : i < l.length := by have := (Array.getElem?_eq_some_iff.1 ho).1; simpa using this
  have ho' : l[i]? = some o := by simpa using ho
  obtain ⟨d, r, hd, hr, hst⟩ := stepsE_at hstep i o ho'
  rw [Nat.zero_add] at hst
  have hB' := hB
  simp only [relyBD, Bool.and_eq_true, List.all_eq_true, List.mem_range, decide_eq_true_eq] at hB'
  obtain ⟨⟨hB1, hB2⟩, hB3⟩ := hB'
  have hB4 := hB1 i (by simpa using hil)
  rw [ho] at hB4
  simp only [Bool.and_eq_true, List.all_eq_true] at hB4
  obtain ⟨⟨⟨_, hdep⟩, hread⟩, hrefi⟩ := hB4
  have hdst : o.dst = d := by
   have : (l.map (·.dst))[i]? = some d := by rw [show l.map (·.dst) = dsts from by simpa using hB2]; exact hd
   simpa [ho'] using this
  have hdepl : ∀ j ∈ deps.getD i [], listed.getD j false = true := by
   intro j hj
   obtain ⟨e, he, hb⟩ := Array.any_eq_true'.1 (hdep j hj)
   simp only [Bool.and_eq_true, Bool.or_eq_true, beq_iff_eq] at hb
   have h1 := hall e he hb.1
   rcases hb.2 with h2 | h2
   ·rw [← h2]; exact h1
   ·exact inv.dep _ h1 j (by simpa using h2)
  have hw := hst (fun k => listed.getD k false) vs W inv.len inv.inv (factsL_of fun j hj => inv.done j (hdepl j (by simpa using hread j hj))) hdepl inv.dist (fun j hj hij => by have := inv.dep j hj i hij; rw [getD_both hun] at this; cases this) (getD_both hun)
  rw [← inv.act] at hw
  have hrefr : ∀ k r', R[k]? = some r' → r'.ref = refs.getD k none := by
   intro k r' hk
   rw [← hrefs, List.getD_eq_getElem?_getD, List.getElem?_map, hk]; rfl
  have key : ∀ a' W', relyQE Q I R (fun k => listed.getD k false) i (fresh.getD i false) vs a d r W .normal a' W' → wpAny P .any l.toArray Q fuel (listed.setIfInBounds i true) a' W' := by
   rintro a' W' ⟨v, h1, h2, hfr, h3, h4⟩
   have hvi : i < vs.length := by rw [inv.len]; exact (List.getElem?_eq_some_iff.1 hd).1
   have hsz : W.heap.size ≤ W'.heap.size := by
    rcases h3 with h | h
    ·exact h.sz
    ·exact h.1
   have hupd : updE (fun k => listed.getD k false) i = fun k => (listed.setIfInBounds i true).getD k false := by
    funext k
    unfold updE
    by_cases hik : i = k
    ·subst hik
     have hsz : i < listed.size := by rw [inv.size]; simpa using hil
     simp [hsz]
    ·rw [getD_set_ne false hik]
     have : (k == i) = false := by simp; omega
     rw [this, Bool.or_false]
   rw [hupd] at h4
   refine ih _ a' W' (vs.set i v) (by have := count_set hun; omega) ⟨by simp [inv.size], h4, by simp [inv.len], ?_, fun k hk => ?_, fun k hk j hj => ?_, fun k hkf hk => ?_, fun j k hjf hkf hjk hj hk => ?_⟩
   ·rw [h1, inv.act]
    exact putAll_put a0 dsts vs i d v hB3 inv.len hd
   ·by_cases hik : i = k
    ·subst hik
     unfold atL
     rw [hr, List.getElem?_set_self hvi]
     have hne : r.ref ≠ some i := by
      intro e
      have h5 := hrefr i r hr
      rw [e] at h5
      rw [← h5] at hrefi
      have := hdepl i (by simpa using hrefi)
      rw [getD_both hun] at this; cases this
     show r.r (refV (vs.set i v) r.ref) v W'
     rw [refV_set hne]
     exact h2
    ·rw [getD_set_ne false hik] at hk
     have := inv.done k hk
     unfold atL at this ⊢
     rw [List.getElem?_set_ne hik]
     split
     ·rename_i r' u h5 h6
      rw [h5, h6] at this
      have hne : r'.ref ≠ some i := by
       intro e
       have hkl := lt_of_listed listed a W vs inv k hk
       have h7 := hB1 k (by simpa using hkl)
       have hok : l.toArray[k]? = some (l[k]'hkl) := by simp [hkl]
       rw [hok] at h7
       simp only [Bool.and_eq_true] at h7
       have h8 := h7.2
       rw [← hrefr k r' h5, e] at h8
       have := inv.dep k hk i (by simpa using h8)
       rw [getD_both hun] at this; cases this
      rw [refV_set hne]
      rcases h3 with h3 | h3
      ·exact r'.stab _ u W W' this h3
      ·have hu : vs.getD k undef = u := by rw [List.getD_eq_getElem?_getD, h6]; rfl
       have := keepsV_at h3.2 k r' h5 (by simpa using hk) (by omega) (by rw [Nat.zero_add, hu]; exact this)
       rwa [Nat.zero_add, hu] at this
     ·trivial
   ·by_cases hik : i = k
    ·subst hik
     exact getD_set_true (hdepl j hj)
    ·rw [getD_set_ne false hik] at hk
     exact getD_set_true (inv.dep k hk j hj)
   ·by_cases hik : i = k
    ·subst hik
     obtain ⟨e1, e2⟩ := hfr hkf
     exact ⟨_, by rw [getD_set_self hvi, e1], e2⟩
    ·rw [getD_set_ne false hik] at hk
     obtain ⟨b, e1, e2⟩ := inv.fr k hkf hk
     exact ⟨b, by rw [getD_set_other hik, e1], by omega⟩
   ·have hfresh : ∀ m, fresh.getD m false = true → i ≠ m → listed.getD m false = true → fresh.getD i false = true → v ≠ vs.getD m undef := by
     intro m hm him hlm hfi e
     obtain ⟨e1, _⟩ := hfr hfi
     obtain ⟨b, e3, e4⟩ := inv.fr m hm hlm
     rw [e1, e3] at e
     injection e with e
     injection e with e
     injection e with e
     omega
    by_cases hij : i = j
    ·subst hij
     rw [getD_set_self hvi, getD_set_other hjk]
     replace hk : (listed.setIfInBounds i true).getD k false = true := hk
     rw [getD_set_ne false hjk] at hk
     exact hfresh k hkf hjk hk hjf
    ·by_cases hik : i = k
     ·subst hik
      rw [getD_set_self hvi, getD_set_other hij]
      replace hj : (listed.setIfInBounds i true).getD j false = true := hj
      rw [getD_set_ne false hij] at hj
      exact fun e => hfresh j hjf hij hj hkf e.symm
     ·rw [getD_set_other hij, getD_set_other hik]
      replace hk : (listed.setIfInBounds i true).getD k false = true := hk
      replace hj : (listed.setIfInBounds i true).getD j false = true := hj
      rw [getD_set_ne false hik] at hk
      rw [getD_set_ne false hij] at hj
      exact inv.dist j k hjf hkf hjk hj hk
  unfold wpOp
  simp only [ho]
  unfold wpList at hw
  split
  ·rename_i hwd
   rw [if_pos hwd] at hw
   rcases hw with hw | ⟨hw, hlo⟩
   ·left
    unfold Oper.wp at hw ⊢
    generalize (execOp a.eval o).run P W = res at *
    cases res with
    | ok n w' =>
     cases n <;> simp only [Oper.upon] at hw ⊢ <;>
      first
       | exact key _ _ hw
       | exact Calls.mono hw (fun e w'' he => by cases e <;> first | exact key _ _ he | exact he)
       | exact Rows.mono hw (fun _ _ he => key _ _ he)
    | halt x w' => cases x <;> simp only [Oper.upon] at hw ⊢ <;> exact hw
   ·right
    obtain ⟨a', w', hq⟩ := hlo
    exact ⟨hw, a', w', hq⟩
  ·rename_i hwd
   rw [if_neg hwd] at hw
   exact key _ _ hw
theorem region_relyE {P : Program} {id : Nat} {Q : Exit → Act → World → Prop} {a : Act} {w : World} {l : List Oper} (I : (Nat → Bool) → World → Prop) (dsts : List (Option Tmp)) (deps reads : List (List Nat)) (refs : List (Option Nat)) (fresh : List Bool) (R : List (RelL Ext))
  (hm : P.follows .mixedOrders = true) (hB : relyBD l.toArray dsts deps reads refs = true) (hrefs : R.map (·.ref) = refs) (hI : I (fun _ => false) { w with drawn := w.drawn + 1 })
  (hstep : stepsE P Q I a l.toArray dsts.length dsts R deps fresh 0 l dsts R reads deps fresh)
  (hend : ∀ listed vs W, vs.length = dsts.length → (∀ i, i < dsts.length → listed i = true) → I listed W → factsL R vs W (List.range dsts.length) → distD fresh (fun i => decide (i < dsts.length)) vs → Q .normal (putAll a dsts vs) W) : (Code.region id l.toArray true).wp P Q a w := by
 refine wp_region_any hm ?_
 have hB2 : l.map (·.dst) = dsts := by
  have := hB
  simp only [relyBD, Bool.and_eq_true, decide_eq_true_eq] at this
  simpa using this.1.2
 have hlen : l.length = dsts.length := by rw [← hB2]; simp
 refine wpAny_relyE (I := I) (a0 := a) (R := R) hB hrefs hstep (fun listed vs W h1 h0 h2 h3 h4 => hend listed vs W h1 (by rw [← hlen]; exact h0) h2 (factsL_of fun i hi => h3 i (by rw [hlen]; simpa using hi)) (by rw [← hlen]; exact h4)) _ _ a _ (dsts.map (slotOf a)) (by simp) ⟨by simp, (show (fun k => (Array.replicate l.toArray.size false).getD k false) = fun _ => false from funext fun k => getD_replicate_false _ _) ▸ hI, by simp, (putAll_orig a dsts).symm, fun i hi => ?_, fun i hi => ?_, fun i _ hi => ?_, fun i j _ _ _ hi => ?_⟩
 ·rw [getD_replicate_false] at hi; cases hi
 ·rw [getD_replicate_false] at hi; cases hi
 ·rw [getD_replicate_false] at hi; cases hi
 ·replace hi : (Array.replicate l.toArray.size false).getD i false = true := hi
  rw [getD_replicate_false] at hi; cases hi
open Go.RowKit Go.Sort
def stepsF (P : Program) (Q : Exit → Act → World → Prop) (I : (Nat → Bool) → World → Prop) (a : Act) (ops : Array Oper) (n : Nat) (dsts : List (Option Tmp)) (R : List (RelL Ext)) (DP : List (List Nat)) (fresh : List Bool) : Nat → List Oper → List (Option Tmp) → List (RelL Ext) → List (List Nat) → List (List Nat) → List Bool → Prop
 | i, o :: l, d :: ds, r :: rs, read :: reads, dep :: deps, fr :: frs =>
  (∀ listed vs W, vs.length = n → I listed W → factsL R vs W read → (∀ j ∈ dep, listed j = true) → distD fresh listed vs → (∀ j, listed j = true → i ∉ DP.getD j []) → listed i = false → (∀ j d v, listed j = false → dsts[j]? = some d → vs[j]? = some v → v = slotOf a d) → wpList P ops (relyQE Q I R listed i fr vs (putAll a dsts vs) d r W) [o] (putAll a dsts vs) W) ∧ stepsF P Q I a ops n dsts R DP fresh (i + 1) l ds rs reads deps frs
 | _, [], [], [], [], [], [] => True
 | _, _, _, _, _, _, _ => False
section
variable {P : Program} {Q : Exit → Act → World → Prop} {I : (Nat → Bool) → World → Prop} {a : Act} {ops : Array Oper} {n : Nat} {dsts : List (Option Tmp)} {R : List (RelL Ext)} {DP : List (List Nat)} {fresh : List Bool}
theorem stepsF_cons {i : Nat} {o : Oper} {l : List Oper} {d : Option Tmp} {ds : List (Option Tmp)} {r : RelL Ext} {rs : List (RelL Ext)} {read : List Nat} {reads : List (List Nat)} {dep : List Nat} {deps : List (List Nat)} {fr : Bool} {frs : List Bool}
  (h1 : ∀ listed vs W, vs.length = n → I listed W → factsL R vs W read → (∀ j ∈ dep, listed j = true) → distD fresh listed vs → (∀ j, listed j = true → i ∉ DP.getD j []) → listed i = false → (∀ j d v, listed j = false → dsts[j]? = some d → vs[j]? = some v → v = slotOf a d) → wpList P ops (relyQE Q I R listed i fr vs (putAll a dsts vs) d r W) [o] (putAll a dsts vs) W) (h2 : stepsF P Q I a ops n dsts R DP fresh (i + 1) l ds rs reads deps frs) :
  stepsF P Q I a ops n dsts R DP fresh i (o :: l) (d :: ds) (r :: rs) (read :: reads) (dep :: deps) (fr :: frs) := ⟨h1, h2⟩
theorem stepsF_at : ∀ {l : List Oper} {ds : List (Option Tmp)} {rs : List (RelL Ext)} {reads deps : List (List Nat)} {frs : List Bool} {k : Nat}, stepsF P Q I a ops n dsts R DP fresh k l ds rs reads deps frs → ∀ (i : Nat) (o : Oper), l[i]? = some o →
      ∃ d r, ds[i]? = some d ∧ rs[i]? = some r ∧ ∀ listed vs W, vs.length = n → I listed W → factsL R vs W (reads.getD i []) → (∀ j ∈ deps.getD i [], listed j = true) → distD fresh listed vs → (∀ j, listed j = true → k + i ∉ DP.getD j []) → listed (k + i) = false → (∀ j d v, listed j = false → dsts[j]? = some d → vs[j]? = some v → v = slotOf a d) → wpList P ops (relyQE Q I R listed (k + i) (frs.getD i false) vs (putAll a dsts vs) d r W) [o] (putAll a dsts vs) W
  | o :: l, d :: ds, r :: rs, read :: reads, dep :: deps, fr :: frs, k, h, 0, o', ho => by
    obtain rfl : o = o' := by simpa using ho
    exact ⟨d, r, rfl, rfl, by simpa using h.1⟩
  | o :: l, d :: ds, r :: rs, read :: reads, dep :: deps, fr :: frs, k, h, i + 1, o', ho => by
    obtain ⟨d', r', h1, h2, h3⟩ := stepsF_at h.2 i o' (by simpa using ho)
    refine ⟨d', r', by simpa using h1, by simpa using h2, ?_⟩
    rw [show k + (i + 1) = k + 1 + i by omega]
    simpa using h3
  | [], [], [], [], [], [], _, _, i, o', ho => by simp at ho
end
structure RelyInvF (I : (Nat → Bool) → World → Prop) (a0 : Act) (ops : Array Oper) (dsts : List (Option Tmp)) (R : List (RelL Ext)) (deps : List (List Nat)) (fresh : List Bool) (listed : Array Bool) (a : Act) (W : World) (vs : List Value) : Prop where
 size : listed.size = ops.size
 inv : I (fun k => listed.getD k false) W
 len : vs.length = dsts.length
 act : a = putAll a0 dsts vs
 done : ∀ i, listed.getD i false = true → atL R vs W i
 dep : ∀ i, listed.getD i false = true → ∀ j ∈ deps.getD i [], listed.getD j false = true
 fr : ∀ i, fresh.getD i false = true → listed.getD i false = true → ∃ b, vs.getD i undef = .pointer (some ⟨b, 0, none⟩) ∧ b < W.heap.size
 dist : distD fresh (fun i => listed.getD i false) vs
 orig : ∀ i d v, listed.getD i false = false → dsts[i]? = some d → vs[i]? = some v → v = slotOf a0 d
theorem wpAny_relyF {P : Program} {Q : Exit → Act → World → Prop} {I : (Nat → Bool) → World → Prop} {a0 : Act} {l : List Oper} {dsts : List (Option Tmp)} {R : List (RelL Ext)} {deps reads : List (List Nat)} {refs : List (Option Nat)} {fresh : List Bool}
  (hB : relyBD l.toArray dsts deps reads refs = true) (hrefs : R.map (·.ref) = refs) (hstep : stepsF P Q I a0 l.toArray dsts.length dsts R deps fresh 0 l dsts R reads deps fresh)
  (hend : ∀ listed vs W, vs.length = dsts.length → (∀ i, i < l.length → listed i = true) → I listed W → (∀ i, i < l.length → atL R vs W i) → distD fresh (fun i => decide (i < l.length)) vs → Q .normal (putAll a0 dsts vs) W) :
  ∀ (fuel : Nat) (listed : Array Bool) (a : Act) (W : World) (vs : List Value), listed.toList.count false = fuel → RelyInvF I a0 l.toArray dsts R deps fresh listed a W vs → wpAny P .any l.toArray Q fuel listed a W := by
 have lt_of_listed : ∀ (listed : Array Bool) (a : Act) (W : World) (vs : List Value), RelyInvF I a0 l.toArray dsts R deps fresh listed a W vs → ∀ m, listed.getD m false = true → m < l.length := by
  intro listed a W vs inv m hm
  rcases Nat.lt_or_ge m listed.size with h | h
  ·rw [inv.size] at h; simpa using h
  ·simp [Array.getElem?_eq_none h] at hm
 have fin : ∀ (listed : Array Bool) (a : Act) (W : World) (vs : List Value), RelyInvF I a0 l.toArray dsts R deps fresh listed a W vs → Region.ready .any l.toArray listed = [] → Q .normal a W := by
  intro listed a W vs inv hr
  have hall := all_listedD hB inv.size hr
  rw [inv.act]
  refine hend (fun k => listed.getD k false) vs W inv.len (fun i hi => hall i (by simpa using hi)) inv.inv (fun i hi => inv.done i (hall i (by simpa using hi))) (fun j k h1 h2 h3 h4 h5 => inv.dist j k h1 h2 h3 (hall j (by simpa using h4)) (hall k (by simpa using h5)))
 intro fuel
 induction fuel with
 | zero =>
  intro listed a W vs hc inv
  have hr : Region.ready .any l.toArray listed = [] := by
   apply List.eq_nil_iff_forall_not_mem.2
   intro i hi
   have := count_set (mem_ready.1 hi).1
   omega
  exact ⟨hr, fin listed a W vs inv hr⟩
 | succ fuel ih =>
  intro listed a W vs hc inv
  refine ⟨fin listed a W vs inv, fun i hi => ?_⟩
  obtain ⟨hun, o, ho, hall⟩ := mem_ready.1 hi
  have hil : i < l.length := by have := (Array.getElem?_eq_some_iff.1 ho).1; simpa using this
  have ho' : l[i]? = some o := by simpa using ho
  obtain ⟨d, r, hd, hr, hst⟩ := stepsF_at hstep i o ho'
  rw [Nat.zero_add] at hst
  have hB' := hB
  simp only [relyBD, Bool.and_eq_true, List.all_eq_true, List.mem_range, decide_eq_true_eq] at hB'
  obtain ⟨⟨hB1, hB2⟩, hB3⟩ := hB'
  have hB4 := hB1 i (by simpa using hil)
  rw [ho] at hB4
  simp only [Bool.and_eq_true, List.all_eq_true] at hB4
  obtain ⟨⟨⟨_, hdep⟩, hread⟩, hrefi⟩ := hB4
  have hdst : o.dst = d := by
   have : (l.map (·.dst))[i]? = some d := by rw [show l.map (·.dst) = dsts from by simpa using hB2]; exact hd
   simpa [ho'] using this
  have hdepl : ∀ j ∈ deps.getD i [], listed.getD j false = true := by
   intro j hj
   obtain ⟨e, he, hb⟩ := Array.any_eq_true'.1 (hdep j hj)
   simp only [Bool.and_eq_true, Bool.or_eq_true, beq_iff_eq] at hb
   have h1 := hall e he hb.1
   rcases hb.2 with h2 | h2
   ·rw [← h2]; exact h1
   ·exact inv.dep _ h1 j (by simpa using h2)
  have hw := hst (fun k => listed.getD k false) vs W inv.len inv.inv (factsL_of fun j hj => inv.done j (hdepl j (by simpa using hread j hj))) hdepl inv.dist (fun j hj hij => by have := inv.dep j hj i hij; rw [getD_both hun] at this; cases this) (getD_both hun) inv.orig
  rw [← inv.act] at hw
  have hrefr : ∀ k r', R[k]? = some r' → r'.ref = refs.getD k none := by
   intro k r' hk
   rw [← hrefs, List.getD_eq_getElem?_getD, List.getElem?_map, hk]; rfl
  have key : ∀ a' W', relyQE Q I R (fun k => listed.getD k false) i (fresh.getD i false) vs a d r W .normal a' W' → wpAny P .any l.toArray Q fuel (listed.setIfInBounds i true) a' W' := by
   rintro a' W' ⟨v, h1, h2, hfr, h3, h4⟩
   have hvi : i < vs.length := by rw [inv.len]; exact (List.getElem?_eq_some_iff.1 hd).1
   have hsz : W.heap.size ≤ W'.heap.size := by
    rcases h3 with h | h
    ·exact h.sz
    ·exact h.1
   have hupd : updE (fun k => listed.getD k false) i = fun k => (listed.setIfInBounds i true).getD k false := by
    funext k
    unfold updE
    by_cases hik : i = k
    ·subst hik
     have hsz : i < listed.size := by rw [inv.size]; simpa using hil
     simp [hsz]
    ·rw [getD_set_ne false hik]
     have : (k == i) = false := by simp; omega
     rw [this, Bool.or_false]
   rw [hupd] at h4
   refine ih _ a' W' (vs.set i v) (by have := count_set hun; omega) ⟨by simp [inv.size], h4, by simp [inv.len], ?_, fun k hk => ?_, fun k hk j hj => ?_, fun k hkf hk => ?_, fun j k hjf hkf hjk hj hk => ?_, fun k d' v' hk hd' hv' => ?_⟩
   ·rw [h1, inv.act]
    exact putAll_put a0 dsts vs i d v hB3 inv.len hd
   ·by_cases hik : i = k
    ·subst hik
     unfold atL
     rw [hr, List.getElem?_set_self hvi]
     have hne : r.ref ≠ some i := by
      intro e
      have h5 := hrefr i r hr
      rw [e] at h5
      rw [← h5] at hrefi
      have := hdepl i (by simpa using hrefi)
      rw [getD_both hun] at this; cases this
     show r.r (refV (vs.set i v) r.ref) v W'
     rw [refV_set hne]
     exact h2
    ·rw [getD_set_ne false hik] at hk
     have := inv.done k hk
     unfold atL at this ⊢
     rw [List.getElem?_set_ne hik]
     split
     ·rename_i r' u h5 h6
      rw [h5, h6] at this
      have hne : r'.ref ≠ some i := by
       intro e
       have hkl := lt_of_listed listed a W vs inv k hk
       have h7 := hB1 k (by simpa using hkl)
       have hok : l.toArray[k]? = some (l[k]'hkl) := by simp [hkl]
       rw [hok] at h7
       simp only [Bool.and_eq_true] at h7
       have h8 := h7.2
       rw [← hrefr k r' h5, e] at h8
       have := inv.dep k hk i (by simpa using h8)
       rw [getD_both hun] at this; cases this
      rw [refV_set hne]
      rcases h3 with h3 | h3
      ·exact r'.stab _ u W W' this h3
      ·have hu : vs.getD k undef = u := by rw [List.getD_eq_getElem?_getD, h6]; rfl
       have := keepsV_at h3.2 k r' h5 (by simpa using hk) (by omega) (by rw [Nat.zero_add, hu]; exact this)
       rwa [Nat.zero_add, hu] at this
     ·trivial
   ·by_cases hik : i = k
    ·subst hik
     exact getD_set_true (hdepl j hj)
    ·rw [getD_set_ne false hik] at hk
     exact getD_set_true (inv.dep k hk j hj)
   ·by_cases hik : i = k
    ·subst hik
     obtain ⟨e1, e2⟩ := hfr hkf
     exact ⟨_, by rw [getD_set_self hvi, e1], e2⟩
    ·rw [getD_set_ne false hik] at hk
     obtain ⟨b, e1, e2⟩ := inv.fr k hkf hk
     exact ⟨b, by rw [getD_set_other hik, e1], by omega⟩
   ·have hfresh : ∀ m, fresh.getD m false = true → i ≠ m → listed.getD m false = true → fresh.getD i false = true → v ≠ vs.getD m undef := by
     intro m hm him hlm hfi e
     obtain ⟨e1, _⟩ := hfr hfi
     obtain ⟨b, e3, e4⟩ := inv.fr m hm hlm
     rw [e1, e3] at e
     injection e with e
     injection e with e
     injection e with e
     omega
    by_cases hij : i = j
    ·subst hij
     rw [getD_set_self hvi, getD_set_other hjk]
     replace hk : (listed.setIfInBounds i true).getD k false = true := hk
     rw [getD_set_ne false hjk] at hk
     exact hfresh k hkf hjk hk hjf
    ·by_cases hik : i = k
     ·subst hik
      rw [getD_set_self hvi, getD_set_other hij]
      replace hj : (listed.setIfInBounds i true).getD j false = true := hj
      rw [getD_set_ne false hij] at hj
      exact fun e => hfresh j hjf hij hj hkf e.symm
     ·rw [getD_set_other hij, getD_set_other hik]
      replace hk : (listed.setIfInBounds i true).getD k false = true := hk
      replace hj : (listed.setIfInBounds i true).getD j false = true := hj
      rw [getD_set_ne false hik] at hk
      rw [getD_set_ne false hij] at hj
      exact inv.dist j k hjf hkf hjk hj hk
   ·by_cases hik : i = k
    ·subst hik
     have hsz : i < listed.size := by rw [inv.size]; simpa using hil
     simp [hsz] at hk
    ·rw [getD_set_ne false hik] at hk
     rw [List.getElem?_set_ne hik] at hv'
     exact inv.orig k d' v' hk hd' hv'
  unfold wpOp
  simp only [ho]
  unfold wpList at hw
  split
  ·rename_i hwd
   rw [if_pos hwd] at hw
   rcases hw with hw | ⟨hw, hlo⟩
   ·left
    unfold Oper.wp at hw ⊢
    generalize (execOp a.eval o).run P W = res at *
    cases res with
    | ok n w' =>
     cases n <;> simp only [Oper.upon] at hw ⊢ <;>
      first
       | exact key _ _ hw
       | exact Calls.mono hw (fun e w'' he => by cases e <;> first | exact key _ _ he | exact he)
       | exact Rows.mono hw (fun _ _ he => key _ _ he)
    | halt x w' => cases x <;> simp only [Oper.upon] at hw ⊢ <;> exact hw
   ·right
    obtain ⟨a', w', hq⟩ := hlo
    exact ⟨hw, a', w', hq⟩
  ·rename_i hwd
   rw [if_neg hwd] at hw
   exact key _ _ hw
theorem region_relyF {P : Program} {id : Nat} {Q : Exit → Act → World → Prop} {a : Act} {w : World} {l : List Oper} (I : (Nat → Bool) → World → Prop) (dsts : List (Option Tmp)) (deps reads : List (List Nat)) (refs : List (Option Nat)) (fresh : List Bool) (R : List (RelL Ext))
  (hm : P.follows .mixedOrders = true) (hB : relyBD l.toArray dsts deps reads refs = true) (hrefs : R.map (·.ref) = refs) (hI : I (fun _ => false) { w with drawn := w.drawn + 1 })
  (hstep : stepsF P Q I a l.toArray dsts.length dsts R deps fresh 0 l dsts R reads deps fresh)
  (hend : ∀ listed vs W, vs.length = dsts.length → (∀ i, i < dsts.length → listed i = true) → I listed W → factsL R vs W (List.range dsts.length) → distD fresh (fun i => decide (i < dsts.length)) vs → Q .normal (putAll a dsts vs) W) : (Code.region id l.toArray true).wp P Q a w := by
 refine wp_region_any hm ?_
 have hB2 : l.map (·.dst) = dsts := by
  have := hB
  simp only [relyBD, Bool.and_eq_true, decide_eq_true_eq] at this
  simpa using this.1.2
 have hlen : l.length = dsts.length := by rw [← hB2]; simp
 refine wpAny_relyF (I := I) (a0 := a) (R := R) hB hrefs hstep (fun listed vs W h1 h0 h2 h3 h4 => hend listed vs W h1 (by rw [← hlen]; exact h0) h2 (factsL_of fun i hi => h3 i (by rw [hlen]; simpa using hi)) (by rw [← hlen]; exact h4)) _ _ a _ (dsts.map (slotOf a)) (by simp) ⟨by simp, (show (fun k => (Array.replicate l.toArray.size false).getD k false) = fun _ => false from funext fun k => getD_replicate_false _ _) ▸ hI, by simp, (putAll_orig a dsts).symm, fun i hi => ?_, fun i hi => ?_, fun i _ hi => ?_, fun i j _ _ _ hi => ?_, fun i d v _ h1 h2 => ?_⟩
 ·rw [getD_replicate_false] at hi; cases hi
 ·rw [getD_replicate_false] at hi; cases hi
 ·rw [getD_replicate_false] at hi; cases hi
 ·replace hi : (Array.replicate l.toArray.size false).getD i false = true := hi
  rw [getD_replicate_false] at hi; cases hi
 ·rw [List.getElem?_map, h1] at h2; simpa using h2.symm
end Go.Proofs.YtacicanjmleikaaGreatDoor
