/-
  A region that draws its order, walked operation by operation, as in LibB; and an operation may give up what is said of slots that nobody looks at any more. Written by wip/gen_libg.py.
-/
import Derived.Test.YtacicanjmleikaaLibB
namespace Go.Proofs.Ytacicanjmleikaa
open Go.RowKit Go.Sort
set_option linter.unusedSimpArgs false
set_option linter.unusedVariables false

/-- What an operation leaves of what is said of the slots that are known, but for those that it gives up. -/
def keepsG (lose : List Nat) (listed : Nat → Bool) (i : Nat) (vs : List Value) (W W' : World) : Nat → List (RelL Ext) → Prop
  | _, [] => True
  | k, r :: R => (lose.contains k = false → listed k = true → k ≠ i → r.r (refV vs r.ref) (vs.getD k undef) W → r.r (refV vs r.ref) (vs.getD k undef) W') ∧ keepsG lose listed i vs W W' (k + 1) R
theorem keepsG_at {lose : List Nat} {listed : Nat → Bool} {i : Nat} {vs : List Value} {W W' : World} : ∀ {R : List (RelL Ext)} {k : Nat}, keepsG lose listed i vs W W' k R → ∀ j r, R[j]? = some r → lose.contains (k + j) = false → listed (k + j) = true → k + j ≠ i → r.r (refV vs r.ref) (vs.getD (k + j) undef) W → r.r (refV vs r.ref) (vs.getD (k + j) undef) W'
  | [], _, _, j, r, hj, _, _, _, _ => by simp at hj
  | r0 :: R, k, h, 0, r, hj, hc, hl, hn, hr => by
    obtain rfl : r0 = r := by simpa using hj
    exact h.1 hc hl hn hr
  | r0 :: R, k, h, j + 1, r, hj, hc, hl, hn, hr => by
    have e : k + (j + 1) = k + 1 + j := by omega
    rw [e] at hc hl hn hr ⊢
    exact keepsG_at h.2 j r (by simpa using hj) hc hl hn hr

/-- How one operation goes on. -/
def relyQG (Q : Exit → Act → World → Prop) (I : (Nat → Bool) → World → Prop) (R : List (RelL Ext)) (lose : List Nat) (listed : Nat → Bool) (i : Nat) (fr : Bool) (vs : List Value) (a : Act) (d : Option Tmp) (r : RelL Ext) (W : World) : Exit → Act → World → Prop
  | .normal, a', W' => ∃ v, a' = a.put d v ∧ r.r (refV vs r.ref) v W' ∧ (fr = true → v = .pointer (some ⟨W.heap.size, 0, none⟩) ∧ W.heap.size < W'.heap.size) ∧ (Ext W W' ∨ (W.heap.size ≤ W'.heap.size ∧ keepsG lose listed i vs W W' 0 R)) ∧ I (updE listed i) W'
  | e, a', W' => Q e a' W'
section
variable {Q : Exit → Act → World → Prop} {I : (Nat → Bool) → World → Prop} {R : List (RelL Ext)} {lose : List Nat} {listed : Nat → Bool} {i : Nat} {vs : List Value} {a : Act} {d : Option Tmp} {r : RelL Ext} {W W' : World} {a' : Act}
theorem relyG_done (v : Value) (h1 : a' = a.put d v) (h2 : r.r (refV vs r.ref) v W') (h3 : Ext W W') (h4 : I (updE listed i) W') : relyQG Q I R lose listed i false vs a d r W .normal a' W' :=
  ⟨v, h1, h2, fun h => (by cases h), .inl h3, h4⟩
theorem relyG_store (v : Value) (h1 : a' = a.put d v) (h2 : r.r (refV vs r.ref) v W') (h5 : W.heap.size ≤ W'.heap.size) (h3 : keepsG lose listed i vs W W' 0 R) (h4 : I (updE listed i) W') : relyQG Q I R lose listed i false vs a d r W .normal a' W' :=
  ⟨v, h1, h2, fun h => (by cases h), .inr ⟨h5, h3⟩, h4⟩
end

/-- That nobody looks any more at what is given up; 'left': what is known at the end. -/
def losesOk (n : Nat) (deps reads loses : List (List Nat)) (left : List Nat) : Bool :=
  ((List.range n).all fun m => (loses.getD m []).all fun j => j == m || (List.range n).all fun k => !(reads.getD k []).contains j || k == m || (deps.getD m []).contains k) &&
  left.all fun i => decide (i < n) && (List.range n).all fun m => m == i || !(loses.getD m []).contains i
theorem left_lt {n : Nat} {deps reads loses : List (List Nat)} {left : List Nat} (h : losesOk n deps reads loses left = true) {i : Nat} (hi : i ∈ left) : i < n := by
  simp only [losesOk, Bool.and_eq_true, List.all_eq_true, decide_eq_true_eq] at h
  exact (h.2 i hi).1
theorem left_no {n : Nat} {deps reads loses : List (List Nat)} {left : List Nat} (h : losesOk n deps reads loses left = true) {i m : Nat} (hi : i ∈ left) (hm : m < n) (hne : m ≠ i) : i ∉ loses.getD m [] := by
  simp only [losesOk, Bool.and_eq_true, List.all_eq_true, List.mem_range, Bool.or_eq_true, beq_iff_eq, Bool.not_eq_true'] at h
  have := (h.2 i hi).2 m hm
  rcases this with h1 | h1
  · exact absurd h1 hne
  · intro h2
    rw [List.contains_iff_mem.2 h2] at h1; cases h1
theorem lose_ok {n : Nat} {deps reads loses : List (List Nat)} {left : List Nat} (h : losesOk n deps reads loses left = true) {i j m : Nat} (hm : m < n) (hj : j ∈ loses.getD m []) (hne : m ≠ j) (hi : i < n) (hr : j ∈ reads.getD i []) : i = m ∨ i ∈ deps.getD m [] := by
  simp only [losesOk, Bool.and_eq_true, List.all_eq_true, List.mem_range, Bool.or_eq_true, beq_iff_eq, Bool.not_eq_true'] at h
  rcases h.1 m hm j hj with h1 | h1
  · exact absurd h1.symm hne
  · rcases h1 i hi with (h2 | h2) | h2
    · rw [List.contains_iff_mem.2 hr] at h2; cases h2
    · exact .inl h2
    · exact .inr (List.contains_iff_mem.1 h2)
theorem getD_set_self' {listed : Array Bool} {i : Nat} (h : i < listed.size) : (listed.setIfInBounds i true).getD i false = true := by simp [h]

/-- What is to be shown of each operation. -/
def stepsG (P : Program) (Q : Exit → Act → World → Prop) (I : (Nat → Bool) → World → Prop) (a : Act) (ops : Array Oper) (n : Nat) (dsts : List (Option Tmp)) (R : List (RelL Ext)) (DP LS : List (List Nat)) (fresh : List Bool) : Nat → List Oper → List (Option Tmp) → List (RelL Ext) → List (List Nat) → List (List Nat) → List Bool → Prop
  | i, o :: l, d :: ds, r :: rs, read :: reads, dep :: deps, fr :: frs =>
    (∀ listed vs W, vs.length = n → I listed W → factsL R vs W read → (∀ j ∈ dep, listed j = true) → distD fresh listed vs → (∀ j, listed j = true → i ∉ DP.getD j []) → listed i = false → (∀ j d v, listed j = false → dsts[j]? = some d → vs[j]? = some v → v = slotOf a d) → wpList P ops (relyQG Q I R (LS.getD i []) listed i fr vs (putAll a dsts vs) d r W) [o] (putAll a dsts vs) W) ∧ stepsG P Q I a ops n dsts R DP LS fresh (i + 1) l ds rs reads deps frs
  | _, [], [], [], [], [], [] => True
  | _, _, _, _, _, _, _ => False

section
variable {P : Program} {Q : Exit → Act → World → Prop} {I : (Nat → Bool) → World → Prop} {a : Act} {ops : Array Oper} {n : Nat} {dsts : List (Option Tmp)} {R : List (RelL Ext)} {DP LS : List (List Nat)} {fresh : List Bool}
theorem stepsG_cons {i : Nat} {o : Oper} {l : List Oper} {d : Option Tmp} {ds : List (Option Tmp)} {r : RelL Ext} {rs : List (RelL Ext)} {read : List Nat} {reads : List (List Nat)} {dep : List Nat} {deps : List (List Nat)} {fr : Bool} {frs : List Bool}
    (h1 : ∀ listed vs W, vs.length = n → I listed W → factsL R vs W read → (∀ j ∈ dep, listed j = true) → distD fresh listed vs → (∀ j, listed j = true → i ∉ DP.getD j []) → listed i = false → (∀ j d v, listed j = false → dsts[j]? = some d → vs[j]? = some v → v = slotOf a d) → wpList P ops (relyQG Q I R (LS.getD i []) listed i fr vs (putAll a dsts vs) d r W) [o] (putAll a dsts vs) W) (h2 : stepsG P Q I a ops n dsts R DP LS fresh (i + 1) l ds rs reads deps frs) :
    stepsG P Q I a ops n dsts R DP LS fresh i (o :: l) (d :: ds) (r :: rs) (read :: reads) (dep :: deps) (fr :: frs) := ⟨h1, h2⟩

theorem stepsG_at : ∀ {l : List Oper} {ds : List (Option Tmp)} {rs : List (RelL Ext)} {reads deps : List (List Nat)} {frs : List Bool} {k : Nat}, stepsG P Q I a ops n dsts R DP LS fresh k l ds rs reads deps frs → ∀ (i : Nat) (o : Oper), l[i]? = some o →
      ∃ d r, ds[i]? = some d ∧ rs[i]? = some r ∧ ∀ listed vs W, vs.length = n → I listed W → factsL R vs W (reads.getD i []) → (∀ j ∈ deps.getD i [], listed j = true) → distD fresh listed vs → (∀ j, listed j = true → k + i ∉ DP.getD j []) → listed (k + i) = false → (∀ j d v, listed j = false → dsts[j]? = some d → vs[j]? = some v → v = slotOf a d) → wpList P ops (relyQG Q I R (LS.getD (k + i) []) listed (k + i) (frs.getD i false) vs (putAll a dsts vs) d r W) [o] (putAll a dsts vs) W
  | o :: l, d :: ds, r :: rs, read :: reads, dep :: deps, fr :: frs, k, h, 0, o', ho => by
    obtain rfl : o = o' := by simpa using ho
    exact ⟨d, r, rfl, rfl, by simpa using h.1⟩
  | o :: l, d :: ds, r :: rs, read :: reads, dep :: deps, fr :: frs, k, h, i + 1, o', ho => by
    obtain ⟨d', r', h1, h2, h3⟩ := stepsG_at h.2 i o' (by simpa using ho)
    refine ⟨d', r', by simpa using h1, by simpa using h2, ?_⟩
    rw [show k + (i + 1) = k + 1 + i by omega]
    simpa using h3
  | [], [], [], [], [], [], _, _, i, o', ho => by simp at ho
end

structure RelyInvG (I : (Nat → Bool) → World → Prop) (a0 : Act) (ops : Array Oper) (dsts : List (Option Tmp)) (R : List (RelL Ext)) (deps loses : List (List Nat)) (fresh : List Bool) (listed : Array Bool) (a : Act) (W : World) (vs : List Value) : Prop where
  size : listed.size = ops.size
  inv : I (fun k => listed.getD k false) W
  len : vs.length = dsts.length
  act : a = putAll a0 dsts vs
  done : ∀ i, listed.getD i false = true → (∀ m, listed.getD m false = true → m ≠ i → i ∉ loses.getD m []) → atL R vs W i
  dep : ∀ i, listed.getD i false = true → ∀ j ∈ deps.getD i [], listed.getD j false = true
  fr : ∀ i, fresh.getD i false = true → listed.getD i false = true → ∃ b, vs.getD i undef = .pointer (some ⟨b, 0, none⟩) ∧ b < W.heap.size
  dist : distD fresh (fun i => listed.getD i false) vs
  orig : ∀ i d v, listed.getD i false = false → dsts[i]? = some d → vs[i]? = some v → v = slotOf a0 d

theorem wpAny_relyG {P : Program} {Q : Exit → Act → World → Prop} {I : (Nat → Bool) → World → Prop} {a0 : Act} {l : List Oper} {dsts : List (Option Tmp)} {R : List (RelL Ext)} {deps reads loses : List (List Nat)} {left : List Nat} {refs : List (Option Nat)} {fresh : List Bool}
    (hB : relyBD l.toArray dsts deps reads refs = true) (hL : losesOk l.length deps reads loses left = true) (hrefs : R.map (·.ref) = refs) (hstep : stepsG P Q I a0 l.toArray dsts.length dsts R deps loses fresh 0 l dsts R reads deps fresh)
    (hend : ∀ listed vs W, vs.length = dsts.length → (∀ i, i < l.length → listed i = true) → I listed W → (∀ i ∈ left, atL R vs W i) → distD fresh (fun i => decide (i < l.length)) vs → Q .normal (putAll a0 dsts vs) W) :
    ∀ (fuel : Nat) (listed : Array Bool) (a : Act) (W : World) (vs : List Value), listed.toList.count false = fuel → RelyInvG I a0 l.toArray dsts R deps loses fresh listed a W vs → wpAny P .any l.toArray Q fuel listed a W := by
  have lt_of_listed : ∀ (listed : Array Bool) (a : Act) (W : World) (vs : List Value), RelyInvG I a0 l.toArray dsts R deps loses fresh listed a W vs → ∀ m, listed.getD m false = true → m < l.length := by
    intro listed a W vs inv m hm
    rcases Nat.lt_or_ge m listed.size with h | h
    · rw [inv.size] at h; simpa using h
    · simp [Array.getElem?_eq_none h] at hm
  have fin : ∀ (listed : Array Bool) (a : Act) (W : World) (vs : List Value), RelyInvG I a0 l.toArray dsts R deps loses fresh listed a W vs → Region.ready .any l.toArray listed = [] → Q .normal a W := by
    intro listed a W vs inv hr
    have hall := all_listedD hB inv.size hr
    rw [inv.act]
    refine hend (fun k => listed.getD k false) vs W inv.len (fun i hi => hall i (by simpa using hi)) inv.inv (fun i hi => inv.done i (hall i (by simpa using left_lt hL hi)) (fun m hm hmi => left_no hL hi (lt_of_listed listed a W vs inv m hm) hmi)) (fun j k h1 h2 h3 h4 h5 => inv.dist j k h1 h2 h3 (hall j (by simpa using h4)) (hall k (by simpa using h5)))
  intro fuel
  induction fuel with
  | zero =>
    intro listed a W vs hc inv
    have hr : Region.ready .any l.toArray listed = [] := by
      apply List.eq_nil_iff_forall_not_mem.2
      intro i hi
      have := count_set (mem_ready.1 hi).1
      omega
    exact ⟨hr, fin listed a W vs inv hr⟩
  | succ fuel ih =>
    intro listed a W vs hc inv
    refine ⟨fin listed a W vs inv, fun i hi => ?_⟩
    obtain ⟨hun, o, ho, hall⟩ := mem_ready.1 hi
    have hil : i < l.length := by have := (Array.getElem?_eq_some_iff.1 ho).1; simpa using this
    have ho' : l[i]? = some o := by simpa using ho
    obtain ⟨d, r, hd, hr, hst⟩ := stepsG_at hstep i o ho'
    rw [Nat.zero_add] at hst
    have hB' := hB
    simp only [relyBD, Bool.and_eq_true, List.all_eq_true, List.mem_range, decide_eq_true_eq] at hB'
    obtain ⟨⟨hB1, hB2⟩, hB3⟩ := hB'
    have hB4 := hB1 i (by simpa using hil)
    rw [ho] at hB4
    simp only [Bool.and_eq_true, List.all_eq_true] at hB4
    obtain ⟨⟨⟨_, hdep⟩, hread⟩, hrefi⟩ := hB4
    have hdst : o.dst = d := by
      have : (l.map (·.dst))[i]? = some d := by rw [show l.map (·.dst) = dsts from by simpa using hB2]; exact hd
      simpa [ho'] using this
    have hdepl : ∀ j ∈ deps.getD i [], listed.getD j false = true := by
      intro j hj
      obtain ⟨e, he, hb⟩ := Array.any_eq_true'.1 (hdep j hj)
      simp only [Bool.and_eq_true, Bool.or_eq_true, beq_iff_eq] at hb
      have h1 := hall e he hb.1
      rcases hb.2 with h2 | h2
      · rw [← h2]; exact h1
      · exact inv.dep _ h1 j (by simpa using h2)
    have hw := hst (fun k => listed.getD k false) vs W inv.len inv.inv (factsL_of fun j hj => inv.done j (hdepl j (by simpa using hread j hj)) (fun m hm hmj hjm => by
      rcases lose_ok hL (lt_of_listed listed a W vs inv m hm) hjm hmj hil hj with h | h
      · subst h; rw [getD_both hun] at hm; cases hm
      · have := inv.dep m hm i h; rw [getD_both hun] at this; cases this)) hdepl inv.dist (fun j hj hij => by have := inv.dep j hj i hij; rw [getD_both hun] at this; cases this) (getD_both hun) inv.orig
    rw [← inv.act] at hw
    have hrefr : ∀ k r', R[k]? = some r' → r'.ref = refs.getD k none := by
      intro k r' hk
      rw [← hrefs, List.getD_eq_getElem?_getD, List.getElem?_map, hk]; rfl
    have key : ∀ a' W', relyQG Q I R (loses.getD i []) (fun k => listed.getD k false) i (fresh.getD i false) vs a d r W .normal a' W' → wpAny P .any l.toArray Q fuel (listed.setIfInBounds i true) a' W' := by
      rintro a' W' ⟨v, h1, h2, hfr, h3, h4⟩
      have hvi : i < vs.length := by rw [inv.len]; exact (List.getElem?_eq_some_iff.1 hd).1
      have hsz : W.heap.size ≤ W'.heap.size := by
        rcases h3 with h | h
        · exact h.sz
        · exact h.1
      have hupd : updE (fun k => listed.getD k false) i = fun k => (listed.setIfInBounds i true).getD k false := by
        funext k
        unfold updE
        by_cases hik : i = k
        · subst hik
          have hsz : i < listed.size := by rw [inv.size]; simpa using hil
          simp [hsz]
        · rw [getD_set_ne false hik]
          have : (k == i) = false := by simp; omega
          rw [this, Bool.or_false]
      rw [hupd] at h4
      refine ih _ a' W' (vs.set i v) (by have := count_set hun; omega) ⟨by simp [inv.size], h4, by simp [inv.len], ?_, fun k hk hcond => ?_, fun k hk j hj => ?_, fun k hkf hk => ?_, fun j k hjf hkf hjk hj hk => ?_, fun k d' v' hk hd' hv' => ?_⟩
      · rw [h1, inv.act]
        exact putAll_put a0 dsts vs i d v hB3 inv.len hd
      · by_cases hik : i = k
        · subst hik
          unfold atL
          rw [hr, List.getElem?_set_self hvi]
          have hne : r.ref ≠ some i := by
            intro e
            have h5 := hrefr i r hr
            rw [e] at h5
            rw [← h5] at hrefi
            have := hdepl i (by simpa using hrefi)
            rw [getD_both hun] at this; cases this
          show r.r (refV (vs.set i v) r.ref) v W'
          rw [refV_set hne]
          exact h2
        · rw [getD_set_ne false hik] at hk
          have hno : (loses.getD i []).contains k = false := by
            have h9 := hcond i (getD_set_self' (by rw [inv.size]; simpa using hil)) hik
            simpa using h9
          have := inv.done k hk (fun m hm hmk => hcond m (getD_set_true hm) hmk)
          unfold atL at this ⊢
          rw [List.getElem?_set_ne hik]
          split
          · rename_i r' u h5 h6
            rw [h5, h6] at this
            have hne : r'.ref ≠ some i := by
              intro e
              have hkl := lt_of_listed listed a W vs inv k hk
              have h7 := hB1 k (by simpa using hkl)
              have hok : l.toArray[k]? = some (l[k]'hkl) := by simp [hkl]
              rw [hok] at h7
              simp only [Bool.and_eq_true] at h7
              have h8 := h7.2
              rw [← hrefr k r' h5, e] at h8
              have := inv.dep k hk i (by simpa using h8)
              rw [getD_both hun] at this; cases this
            rw [refV_set hne]
            rcases h3 with h3 | h3
            · exact r'.stab _ u W W' this h3
            · have hu : vs.getD k undef = u := by rw [List.getD_eq_getElem?_getD, h6]; rfl
              have := keepsG_at h3.2 k r' h5 (by rw [Nat.zero_add]; exact hno) (by simpa using hk) (by omega) (by rw [Nat.zero_add, hu]; exact this)
              rwa [Nat.zero_add, hu] at this
          · trivial
      · by_cases hik : i = k
        · subst hik
          exact getD_set_true (hdepl j hj)
        · rw [getD_set_ne false hik] at hk
          exact getD_set_true (inv.dep k hk j hj)
      · by_cases hik : i = k
        · subst hik
          obtain ⟨e1, e2⟩ := hfr hkf
          exact ⟨_, by rw [getD_set_self hvi, e1], e2⟩
        · rw [getD_set_ne false hik] at hk
          obtain ⟨b, e1, e2⟩ := inv.fr k hkf hk
          exact ⟨b, by rw [getD_set_other hik, e1], by omega⟩
      · have hfresh : ∀ m, fresh.getD m false = true → i ≠ m → listed.getD m false = true → fresh.getD i false = true → v ≠ vs.getD m undef := by
          intro m hm him hlm hfi e
          obtain ⟨e1, _⟩ := hfr hfi
          obtain ⟨b, e3, e4⟩ := inv.fr m hm hlm
          rw [e1, e3] at e
          injection e with e
          injection e with e
          injection e with e
          omega
        by_cases hij : i = j
        · subst hij
          rw [getD_set_self hvi, getD_set_other hjk]
          replace hk : (listed.setIfInBounds i true).getD k false = true := hk
          rw [getD_set_ne false hjk] at hk
          exact hfresh k hkf hjk hk hjf
        · by_cases hik : i = k
          · subst hik
            rw [getD_set_self hvi, getD_set_other hij]
            replace hj : (listed.setIfInBounds i true).getD j false = true := hj
            rw [getD_set_ne false hij] at hj
            exact fun e => hfresh j hjf hij hj hkf e.symm
          · rw [getD_set_other hij, getD_set_other hik]
            replace hk : (listed.setIfInBounds i true).getD k false = true := hk
            replace hj : (listed.setIfInBounds i true).getD j false = true := hj
            rw [getD_set_ne false hik] at hk
            rw [getD_set_ne false hij] at hj
            exact inv.dist j k hjf hkf hjk hj hk
      · by_cases hik : i = k
        · subst hik
          have hsz : i < listed.size := by rw [inv.size]; simpa using hil
          simp [hsz] at hk
        · rw [getD_set_ne false hik] at hk
          rw [List.getElem?_set_ne hik] at hv'
          exact inv.orig k d' v' hk hd' hv'
    unfold wpOp
    simp only [ho]
    unfold wpList at hw
    split
    · rename_i hwd
      rw [if_pos hwd] at hw
      rcases hw with hw | ⟨hw, hlo⟩
      · left
        unfold Oper.wp at hw ⊢
        generalize (execOp a.eval o).run P W = res at *
        cases res with
        | ok n w' =>
          cases n <;> simp only [Oper.upon] at hw ⊢ <;>
            first
              | exact key _ _ hw
              | exact Calls.mono hw (fun e w'' he => by cases e <;> first | exact key _ _ he | exact he)
              | exact Rows.mono hw (fun _ _ he => key _ _ he)
        | halt x w' => cases x <;> simp only [Oper.upon] at hw ⊢ <;> exact hw
      · right
        obtain ⟨a', w', hq⟩ := hlo
        exact ⟨hw, a', w', hq⟩
    · rename_i hwd
      rw [if_neg hwd] at hw
      exact key _ _ hw

/-- For the walk: dsts, deps, reads are the region's tables; refs: the slot that is spoken of beside its own; fresh: which operations lay a block. -/
theorem region_relyG {P : Program} {id : Nat} {Q : Exit → Act → World → Prop} {a : Act} {w : World} {l : List Oper} (I : (Nat → Bool) → World → Prop) (dsts : List (Option Tmp)) (deps reads : List (List Nat)) (refs : List (Option Nat)) (fresh : List Bool) (loses : List (List Nat)) (left : List Nat) (R : List (RelL Ext))
    (hm : P.follows .mixedOrders = true) (hB : relyBD l.toArray dsts deps reads refs = true) (hL : losesOk l.length deps reads loses left = true) (hrefs : R.map (·.ref) = refs) (hI : I (fun _ => false) { w with drawn := w.drawn + 1 })
    (hstep : stepsG P Q I a l.toArray dsts.length dsts R deps loses fresh 0 l dsts R reads deps fresh)
    (hend : ∀ listed vs W, vs.length = dsts.length → (∀ i, i < dsts.length → listed i = true) → I listed W → factsL R vs W left → distD fresh (fun i => decide (i < dsts.length)) vs → Q .normal (putAll a dsts vs) W) : (Code.region id l.toArray true).wp P Q a w := by
  refine wp_region_any hm ?_
  have hB2 : l.map (·.dst) = dsts := by
    have := hB
    simp only [relyBD, Bool.and_eq_true, decide_eq_true_eq] at this
    simpa using this.1.2
  have hlen : l.length = dsts.length := by rw [← hB2]; simp
  refine wpAny_relyG (I := I) (a0 := a) (R := R) hB hL hrefs hstep (fun listed vs W h1 h0 h2 h3 h4 => hend listed vs W h1 (by rw [← hlen]; exact h0) h2 (factsL_of fun i hi => h3 i hi) (by rw [← hlen]; exact h4)) _ _ a _ (dsts.map (slotOf a)) (by simp) ⟨by simp, (show (fun k => (Array.replicate l.toArray.size false).getD k false) = fun _ => false from funext fun k => getD_replicate_false _ _) ▸ hI, by simp, (putAll_orig a dsts).symm, fun i hi _ => ?_, fun i hi => ?_, fun i _ hi => ?_, fun i j _ _ _ hi => ?_, fun i d v _ h1 h2 => ?_⟩
  · rw [getD_replicate_false] at hi; cases hi
  · rw [getD_replicate_false] at hi; cases hi
  · rw [getD_replicate_false] at hi; cases hi
  · replace hi : (Array.replicate l.toArray.size false).getD i false = true := hi
    rw [getD_replicate_false] at hi; cases hi
  · rw [List.getElem?_map, h1] at h2; simpa using h2.symm
end Go.Proofs.Ytacicanjmleikaa
