/-
  The leap seconds before a day, by the program's iterator, walked; when a day begins, how long it is.
-/
import Derived.Test.YtcohdojfbnijpaaDoorVB
import Derived.Shelf.Abstract
namespace Go.Proofs.YtcohdojfbnijpaaDoor
open Go.RowKit Go.Sort Go.Shelf
set_option linter.unusedSimpArgs false
set_option linter.unusedVariables false
set_option maxRecDepth 100000
attribute [local go_sem] Oper.semAt_some

theorem lbefore_any (a : Option Addr) (n c : Nat) (day : Int) (w : World) : Calls Tryd.prog 84 #[.slice a n c, .int .i64 day] w fun e w' => e = .returned (.func (.func 90) #[] #[.pointer (some ⟨w.heap.size, 0, none⟩), .pointer (some ⟨w.heap.size + 1, 0, none⟩)]) ∧ w' = (w.alloc (.cells #[.slice a n c] 23)).alloc (.cells #[.int .i64 day] 3) := by
  go_enter Tryd.func84, Tryd.ntmps84
  go_wp2_with fail
  go_ret
  exact ⟨rfl, rfl⟩

/-- What a round that goes on keeps: whatever lies below n₀; and all cells but those of the blocks B. -/
def KpB (n₀ : Nat) (B : Nat → Prop) (W W' : World) : Prop := Below n₀ W W' ∧ ∀ k cs t fr, ¬ B k → W.heap[k]? = some (.cells cs t fr) → W'.heap[k]? = some (.cells cs t fr)
theorem KpB.trans {n₀ : Nat} {B : Nat → Prop} {W W1 W2 : World} (h : KpB n₀ B W W1) (k : KpB n₀ B W1 W2) : KpB n₀ B W W2 := ⟨h.1.trans k.1, fun i cs t fr hB hi => k.2 i cs t fr hB (h.2 i cs t fr hB hi)⟩
theorem KpB.put {n₀ : Nat} {B : Nat → Prop} {w : World} (hn : n₀ ≤ w.heap.size) (W : World) (l : Nat) (o o' : Obj) (hl : w.heap.size ≤ l) (h : W.heap[l]? = some o) (hc : o.isCells = false) (hw : o.isWalk = false) : KpB n₀ B W (W.putObj l o') := by
  refine ⟨belowK_b hn W l o o' hl h hc hw, fun k cs t fr _ hk => ?_⟩
  by_cases e : k = l
  · subst e; rw [h] at hk; cases hk; cases hc
  · exact (World.putObj_heap_other e).trans hk
theorem KpB.ofExt {n₀ : Nat} {B : Nat → Prop} {W W' : World} (hn : n₀ ≤ W.heap.size) (h : Ext W W') : KpB n₀ B W W' :=
  ⟨Below.mono h hn, fun k cs t fr _ hk => (h.block k (Array.getElem?_eq_some_iff.1 hk).1).trans hk⟩
theorem KpB.set {n₀ : Nat} {B : Nat → Prop} {W W' : World} (h : KpB n₀ B W W') {b : Nat} (hb : B b) (hn : n₀ ≤ b) (v : Value) : KpB n₀ B W (W'.setCell ⟨b, 0, none⟩ v) :=
  ⟨Below.setCell h.1 (p := ⟨b, 0, none⟩) hn v, fun k cs t fr hk hi => (heap_setCell_other W' ⟨b, 0, none⟩ k v (fun e => hk (e ▸ hb))).trans (h.2 k cs t fr hk hi)⟩
theorem grownBy_of_ext {W W' : World} (h : Ext W W') : W.grownBy W' none := ⟨h.os, h.tape, h.output, h.size, fun k hk _ => h.block k hk⟩

def encP (l : List Lp) (x : Fin l.length) : Array Value := #[.agg #[.int .i64 (nthR l x).d, .int .i64 (nthR l x).s]]
/-- In their order. -/
def Upto {n : Nat} (pre : List (Fin n)) : Prop := ∀ (i : Nat) (x : Fin n), pre[i]? = some x → x.val = i
theorem Upto.snoc {n : Nat} {pre : List (Fin n)} (h : Upto pre) (x : Fin n) (hx : x.val = pre.length) : Upto (pre ++ [x]) := by
  intro i y hy
  rcases Nat.lt_or_ge i pre.length with hi | hi
  · rw [List.getElem?_append_left hi] at hy; exact h i y hy
  · rw [List.getElem?_append_right hi] at hy
    rcases Nat.eq_zero_or_pos (i - pre.length) with h0 | h0
    · rw [h0] at hy; simp at hy; subst hy; omega
    · rw [List.getElem?_eq_none (by simp; omega)] at hy; cases hy

/-- The sum of the first k leap seconds. -/
def preS (l : List Lp) (k : Nat) : Int := ((l.take k).map Lp.s).sum
/-- The first k are before the day, and the next one is not. -/
def Cut (l : List Lp) (day : Int) (k : Nat) : Prop := k ≤ l.length ∧ preS l k = offL l day
theorem preS_succ {l : List Lp} {k : Nat} (h : k < l.length) : preS l (k + 1) = preS l k + (nthR l k).s := by
  unfold preS; rw [take_nthR_succ h]; simp
/-- The sum goes on behind the first k, if these are before the day. -/
theorem offL_from : ∀ (l : List Lp) (day : Int) (k : Nat), k ≤ l.length → (∀ i, i < k → (nthR l i).d < day) → offL l day = preS l k + offL (l.drop k) day
  | l, day, 0, _, _ => by simp [preS]
  | [], day, k + 1, h, _ => by simp at h
  | x :: l, day, k + 1, h, hb => by
    have h0 : x.d < day := hb 0 (by omega)
    have ih := offL_from l day k (by simpa using h) (fun i hi => hb (i + 1) (by omega))
    simp only [offL, if_pos h0, List.drop_succ_cons, ih, preS, List.take_succ_cons, List.map_cons, List.sum_cons]
    omega
theorem cut_at {l : List Lp} {day : Int} {k : Nat} (hk : k < l.length) (hb : ∀ i, i < k → (nthR l i).d < day) (hn : ¬ (nthR l k).d < day) : Cut l day k := by
  refine ⟨by omega, ?_⟩
  rw [offL_from l day k (by omega) hb, List.drop_eq_getElem_cons hk, ← nthR_get hk]
  simp only [offL, if_neg hn]; omega
theorem cut_end {l : List Lp} {day : Int} (hb : ∀ i, i < l.length → (nthR l i).d < day) : Cut l day l.length := by
  refine ⟨Nat.le_refl _, ?_⟩
  rw [offL_from l day _ (Nat.le_refl _) hb]
  simp [offL]
theorem preS_bd {l : List Lp} {last : Int} (h : vfrom last l = true) (k : Nat) : - (k : Int) ≤ preS l k ∧ preS l k ≤ k := by
  induction k with
  | zero => simp [preS]
  | succ k ih =>
    by_cases hk : k < l.length
    · rw [preS_succ hk]
      have := vfrom_gt h _ (nthR_mem hk)
      push_cast; omega
    · have e : preS l (k + 1) = preS l k := by unfold preS; rw [List.take_of_length_le (by omega), List.take_of_length_le (by omega)]
      rw [e]; push_cast; omega

set_option maxHeartbeats 2000000 in
theorem before1_in (n : Nat) (hn : 2 ≤ n) (n₀ : Nat) (B : Nat → Prop) (Bn Bd : Nat) (a : Option Addr) (m c : Nat) (l : List Lp) (day : Int) (w0 w : World) (h0 : w0.heap.size = n₀) (hE0 : Ext w0 w) (hB : ∀ k, B k → k < w.heap.size) (hBd : ¬ B Bd)
    (h1 : Rw w0 a m c l) (hb : Boxed w Bn 23 (.slice a m c)) (hd : Boxed w Bd 3 (.int .i64 day)) :
    SeqStopsK Fence.wide n Tryd.prog 90 #[.pointer (some ⟨Bn, 0, none⟩), .pointer (some ⟨Bd, 0, none⟩)] (encP l) (KpB n₀ B) (fun xs => Cut l day xs.length ∧ Upto xs) Upto l.length w := by
  intro lp J Jx W hW hJ hJx hY hJ0
  have bd := h1.bd
  have HL := Lib.hid h1.hlen
  have hcb : W.cell? ⟨Bn, 0, none⟩ = some (.slice a m c) := (hW.cell (p := ⟨Bn, 0, none⟩) hb.lt).trans hb.cell
  have hdW : Boxed W Bd 3 (.int .i64 day) := (hW.block Bd hd.lt).trans hd
  have hEW : Ext w0 W := hE0.trans hW
  have hzW := hW.size
  refine callsIn_of_wp Tryd.func90 rfl trivial ?_ rfl
  simp only [Tryd.ntmps90, List.size_toArray, List.length_cons, List.length_nil, Nat.reduceAdd, Nat.reduceSub, Array.replicate_succ, Array.replicate_zero, List.push_toArray, List.append_toArray, List.nil_append, List.cons_append]
  gi_wp2
  gi_loopw [8] (fun i wr => ∃ (k : Nat) (pre : List (Fin l.length)), k ≤ m ∧ i = .int .i64 k ∧ pre.length = k ∧ Upto pre ∧ (∀ i, i < k → (nthR l i).d < day) ∧ J pre wr ∧ Ext w0 wr ∧ W.heap.size ≤ wr.heap.size ∧ Boxed wr Bd 3 (.int .i64 day)) (fun i _ => m - (intOf i).toNat)
  case atStart => exact ⟨0, [], by omega, rfl, rfl, fun i x hx => by simp at hx, fun i hi => by omega, hJ0, hEW, Nat.le_refl _, hdW⟩
  case round =>
    obtain ⟨k, pre, hk, rfl, hpl, hup, hbf, hJp, hE, hzr, hdr⟩ := hrel
    have HPL := Lib.hid hpl
    have HBF := Lib.hid hbf
    have cd := hdr.cell
    clear hpl hbf
    by_cases hlt : k < m
    · have hkr : k < l.length := by rw [HL.out]; exact hlt
      obtain ⟨x1, o1, rfl, hc1⟩ := h1.at (by omega)
      have hr := rangeAt_ext (hc1 k hlt) hE
      rw [sz_lp] at hr
      obtain ⟨d0, d1⟩ := cells_lp hr
      have hall : Ext wr (wr.alloc (.cells #[.int .i64 (nthR l k).d, .int .i64 (nthR l k).s] 52)) := (Ext.refl wr).alloc _
      have hcdA := hall.cell cd
      clear hc1 hr
      by_cases hday : (nthR l k).d < day
      · have hday' : ¬ day ≤ (nthR l k).d := by omega
        have HBF2 : Hid (∀ i, i < k + 1 → (nthR l i).d < day) := by
          intro i hi
          rcases Nat.lt_or_ge i k with h | h
          · exact HBF.out i h
          · obtain rfl : i = k := by omega
            exact hday
        have hJ1 : J pre (wr.alloc (.cells #[.int .i64 (nthR l k).d, .int .i64 (nthR l k).s] 52)) := hJ pre wr _ none hJp (grownBy_of_ext hall) (fun r e => by cases e)
        obtain ⟨fn, tmps, assign, body, hy, hR⟩ := hY pre ⟨k, hkr⟩ _ hJ1 (by rw [HPL.out]; exact hkr)
        simp only [encP] at hy
        have hbx := World.alloc_heap_new wr (.cells #[.int .i64 (nthR l k).d, .int .i64 (nthR l k).s] 52)
        have hdB := hdr.alloc (.cells #[.int .i64 (nthR l k).d, .int .i64 (nthR l k).s] 52)
        gi_wp2
        refine ⟨fun _ => by omega, ?_⟩
        refine hR.mono ?_
        rintro e W3 (⟨rfl, hJ3, hk3⟩ | ⟨rfl, hJx3⟩)
        · have hE3 : Ext w0 W3 := Below.trans (hE.trans hall) (h0 ▸ hk3.1)
          have hd3 : Boxed W3 Bd 3 (.int .i64 day) := hk3.2 Bd _ _ _ hBd hdB
          have hz3 := hk3.2 wr.heap.size _ _ _ (fun hb => by have := hB _ hb; omega) hbx
          have hz4 := lt_of_block hz3
          gi_wp2
          go_roundw
          case rel => exact ⟨k + 1, pre ++ [⟨k, hkr⟩], by omega, by go_num, by simp [HPL.out], hup.snoc _ HPL.out.symm, HBF2.out, hJ3, hE3, by omega, hd3⟩
          case measure => simp [intOf]; omega
        · gi_wp2
          refine bodyPost_ret (results_none rfl _ _ _) rfl ?_
          exact ⟨⟨_, rfl⟩, .inr ⟨pre ++ [⟨k, hkr⟩], hup.snoc _ HPL.out.symm, hJx3⟩⟩
      · have hday' : day ≤ (nthR l k).d := by omega
        have hJ1 : J pre (wr.alloc (.cells #[.int .i64 (nthR l k).d, .int .i64 (nthR l k).s] 52)) := hJ pre wr _ none hJp (grownBy_of_ext hall) (fun r e => by cases e)
        have hcut := Lib.hid (cut_at hkr HBF.out hday)
        gi_wp2
        refine ⟨fun f h => by (cases h), ?_⟩
        gi_wp2
        refine bodyPost_ret (results_none rfl _ _ _) rfl ?_
        exact ⟨⟨_, rfl⟩, .inl ⟨pre, ⟨by rw [HPL.out]; exact hcut.out, hup⟩, hJ1⟩⟩
    · obtain rfl : k = m := by omega
      have hcut := Lib.hid (cut_end (l := l) (day := day) (fun i hi => HBF.out i (by rw [HL.out] at hi; exact hi)))
      gi_wp2
      go_end0
      exact ⟨⟨_, rfl⟩, .inl ⟨pre, ⟨by rw [HPL.out, ← HL.out]; exact hcut.out, hup⟩, hJp⟩⟩

/-- A leap second in a block of its own. -/
def Boxed2 (W : World) (b : Nat) (x : Lp) : Prop := W.heap[b]? = some (.cells #[.int .i64 x.d, .int .i64 x.s] 52 (0, 0))
theorem boxed2_own {W W' : World} {b : Nat} {x : Lp} {row : Option Nat} (h : Boxed2 W b x) (hg : W.grownBy W' row) (hr : some b = row → ∃ o, W.heap[b]? = some o ∧ o.isCells = false) : Boxed2 W' b x := by
  refine (hg.block b (Array.getElem?_eq_some_iff.1 h).1 ?_).trans h
  intro e
  obtain ⟨o, ho, hc⟩ := hr e
  unfold Boxed2 at h
  rw [h] at ho; cases ho; cases hc
/-- The sum of the leap seconds that have come. -/
def lastS (l : List Lp) (pre : List (Fin l.length)) : Int := (pre.map fun x : Fin l.length => (nthR l x.val).s).sum
theorem lastS_snoc (l : List Lp) (pre : List (Fin l.length)) (x : Fin l.length) : lastS l (pre ++ [x]) = lastS l pre + (nthR l x).s := by simp [lastS]
theorem lastS_bd {l : List Lp} (h : vfrom (-1) l = true) : ∀ (pre : List (Fin l.length)), - (pre.length : Int) ≤ lastS l pre ∧ lastS l pre ≤ pre.length
  | [] => by simp [lastS]
  | x :: pre => by
    have ih := lastS_bd h pre
    have := (vfrom_gt h _ (nthR_mem x.2)).2.2
    simp only [lastS, List.map_cons, List.sum_cons, List.length_cons] at ih ⊢
    push_cast
    omega
theorem lastS_all {l : List Lp} {xs : List (Fin l.length)} (hu : Upto xs) (hl : xs.length ≤ l.length) : lastS l xs = preS l xs.length := by
  unfold lastS preS
  congr 1
  apply List.ext_getElem
  · simp; omega
  · intro i h1 h2
    simp only [List.length_map] at h1
    have := hu i xs[i] (List.getElem?_eq_getElem h1)
    simp [nthR, List.getD_eq_getElem?_getD, this, show i < l.length by omega]

set_option maxHeartbeats 2000000 in
theorem loffset_any (a : Option Addr) (n c : Nat) (l : List Lp) (day : Int) (w : World) (h1 : Rw w a n c l) (hv : validL l = true) :
    Calls Tryd.prog 68 #[.slice a n c, .int .i64 day] w fun e w' => e = .returned (.int .i64 (offL l day)) ∧ Ext w w' := by
  have HV := Lib.hid hv
  have hl100 := validL_len hv
  clear hv
  refine (callsIn_wide (n := 5)).1 ?_
  refine callsIn_of_wp_marks Tryd.func68 rfl trivial ?_ rfl
  simp only [Tryd.ntmps68, List.size_toArray, List.length_cons, List.length_nil, Nat.reduceAdd, Nat.reduceSub, Array.replicate_succ, Array.replicate_zero, List.push_toArray, List.append_toArray, List.nil_append, List.cons_append]
  gi_wp2_with (refine ⟨trivial, ?_⟩; gi_at_call 84; refine (callsIn_wide.2 (lbefore_any _ _ _ _ _)).mono ?_; rintro e w1 ⟨rfl, rfl⟩)
  have bO : Boxed (((w.alloc (.cells #[.int .i64 0] 3)).alloc (.cells #[.slice a n c] 23)).alloc (.cells #[.int .i64 day] 3)) w.heap.size 3 (.int .i64 0) := ((Boxed.new w _ _).alloc _).alloc _
  have bN := (Boxed.new (w.alloc (.cells #[.int .i64 0] 3)) 23 (.slice a n c)).alloc (.cells #[.int .i64 day] 3)
  have bD := Boxed.new ((w.alloc (.cells #[.int .i64 0] 3)).alloc (.cells #[.slice a n c] 23)) 3 (.int .i64 day)
  simp only [World.size_alloc] at bN bD
  have hE0 : Ext w (((w.alloc (.cells #[.int .i64 0] 3)).alloc (.cells #[.slice a n c] 23)).alloc (.cells #[.int .i64 day] 3)) := (((Ext.refl w).alloc _).alloc _).alloc _
  have hsz : (((w.alloc (.cells #[.int .i64 0] 3)).alloc (.cells #[.slice a n c] 23)).alloc (.cells #[.int .i64 day] 3)).heap.size = w.heap.size + 3 := by simp
  have hw1 : w.heap.size + 1 + 1 = w.heap.size + 2 := rfl
  obtain ⟨W0, hW0⟩ : ∃ W0, ((w.alloc (.cells #[.int .i64 0] 3)).alloc (.cells #[.slice a n c] 23)).alloc (.cells #[.int .i64 day] 3) = W0 := ⟨_, rfl⟩
  rw [hW0] at bO bN bD hE0 hsz ⊢
  clear hW0
  have hS0 : lastS l [] = 0 := rfl
  refine wpIn_rangeFunc_ownH rfl (by omega) (gf := 90) (lb := #[.pointer (some ⟨w.heap.size + 1, 0, none⟩), .pointer (some ⟨w.heap.size + 1 + 1, 0, none⟩)]) rfl trivial (enters_of Tryd.func90 (by kernel_rfl) rfl)
    (before1_in (5 - 1) (by omega) w.heap.size (fun k => k = w.heap.size) (w.heap.size + 1) (w.heap.size + 1 + 1) a n c l day w W0 rfl hE0 (fun k hk => by omega) (by omega) h1 bN bD) KpB.trans (KpB.put (by omega)) (Below.refl _ _) (fun _ => rfl)
    (fun pre W => Boxed W w.heap.size 3 (.int .i64 (lastS l pre)) ∧ Below w.heap.size w W)
    (fun _ _ _ => False)
    (OwnFrom.and (Own.from (boxed_own _ _ _) _) (ownFrom_below (Nat.le_refl _) (by omega)))
    (fun _ _ _ _ _ hs _ _ => hs)
    ⟨by rw [hS0]; exact bO, hE0⟩
    (fun x a' W => ∃ Bx, w.heap.size < Bx ∧ Boxed2 W Bx (nthR l x) ∧ a' = { tmps := #[.slice a n c, .int .i64 day, undef, undef, .int .i64 0, .pointer (some ⟨w.heap.size, 0, none⟩), .pointer (some ⟨Bx, 0, none⟩), .slice a n c, .int .i64 day, .func (.func 90) #[] #[.pointer (some ⟨w.heap.size + 1, 0, none⟩), .pointer (some ⟨w.heap.size + 1 + 1, 0, none⟩)], .agg #[.int .i64 (nthR l x).d, .int .i64 (nthR l x).s], undef, undef, undef, undef, undef], defers := [] })
    (fun x a' _ X Y row hs hg hr => by obtain ⟨Bx, h1, h2, h3⟩ := hs; exact ⟨Bx, h1, boxed2_own h2 hg (fun e => (hr Bx e.symm).2), h3⟩)
    ?assign ?body ?done ?stop
  case assign =>
    rintro lp pre x W K ⟨bS1, hB1⟩ hK
    simp only [encP] at hK ⊢
    gi_wp2
    exact hK _ _ ((KeepsOthers.alloc _ _).from _) (KpB.ofExt hB1.size ((Ext.refl W).alloc _)) ⟨bS1.alloc _, hB1.alloc hB1.size _⟩ ⟨W.heap.size, bS1.lt, World.alloc_heap_new W _, rfl⟩
  case body =>
    rintro lp pre x a' W hl ⟨r, hr⟩ ⟨bS1, hB1⟩ ⟨Bx, hBx, bX, rfl⟩ hlt
    have cX : W.cell? ⟨Bx, 1, none⟩ = some (.int .i64 (nthR l x).s) := cell_of_block bX 1 _ rfl
    have cS := bS1.cell
    have fS := bS1.frozen
    have hb1 := lastS_bd (validL_from HV.out) pre
    have hs1 := vfrom_gt (validL_from HV.out) _ (nthR_mem x.2)
    have hsx := hs1.2.2
    clear hs1
    have hsn := Lib.hid (lastS_snoc l pre x)
    generalize lastS l pre = SP at *
    gi_wp2
    refine ⟨(KeepsOthers.setCell _ _ _).from _, KpB.set (B := fun k => k = w.heap.size) (KpB.ofExt hB1.size (Ext.refl W)) rfl (Nat.le_refl _) _, ?_, hB1.setCell (p := ⟨w.heap.size, 0, none⟩) (Nat.le_refl _) _⟩
    show Boxed _ _ _ (.int .i64 (lastS l (pre ++ [x])))
    rw [hsn.out]
    exact bS1.set _
  case done =>
    rintro D zs W hD ⟨hcut, hu⟩ ⟨bS1, hB1⟩ hK
    have e : lastS l zs = offL l day := (lastS_all hu hcut.1).trans hcut.2
    rw [e] at bS1
    have cS := bS1.cell
    gi_wp2
    refine ⟨by simp, .inl ⟨_, _, rfl, run_takeDeferred hK, ?_⟩⟩
    exact ⟨_, results_tmp rfl _ _ _, rfl, hB1.trans (belowK_b (w := w) (Nat.le_refl _) W D _ _ (by omega) hK rfl rfl)⟩
  case stop =>
    rintro D c pre W _ _ h _
    exact h.elim
end Go.Proofs.YtcohdojfbnijpaaDoor
