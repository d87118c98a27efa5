/-
  Answers in any order, plain laws: what a box has after them.
-/
import Derived.Test.YtdmfdimhjemngaaDoorIW
namespace Go.Proofs.YtdmfdimhjemngaaDoor
open Go.RowKit Go.Sort Go.Shelf
set_option linter.unusedSimpArgs false
set_option linter.unusedVariables false

attribute [local irreducible] nonF
/-- The answer to the request of an authority, and what a box has after answers in an order. -/
def rpU (B : Bx) (i : Int) : Rp := ansR (rq1 B (nth B.asked i.toNat)) (10 * i) (10 * i + 3)
def ansU (B : Bx) (ord : List Int) : List Rp := ord.foldl (fun g i => insR (rpU B i) g) []
def bxO (B : Bx) (ord : List Int) : Bx := { B with got := ansU B ord }
structure OrdP (B : Bx) (ord : List Int) : Prop where
  frm : frmX B = true
  ok : B.Ok
  got : B.got = []
  rng : ∀ i ∈ ord, 0 ≤ i ∧ i < B.asked.length
  nd : ord.Nodup
theorem OrdP.asc {B : Bx} {ord : List Int} (h : OrdP B ord) : ∀ {d i : Nat}, i + d + 1 < B.asked.length → nth B.asked i < nth B.asked (i + d + 1)
  | 0, i, hi => by
    have := (askB_iff.1 (frmX_iff.1 h.frm).asked (i + 1) (by omega)).2 (by omega)
    rw [Nat.add_sub_cancel] at this
    exact this
  | d + 1, i, hi => by
    have h1 := OrdP.asc h (d := d) (i := i) (by omega)
    have h2 := (askB_iff.1 (frmX_iff.1 h.frm).asked (i + d + 1 + 1) (by omega)).2 (by omega)
    rw [Nat.add_sub_cancel] at h2
    have : i + (d + 1) + 1 = i + d + 1 + 1 := by omega
    rw [this]
    omega
theorem OrdP.less {B : Bx} {ord : List Int} (h : OrdP B ord) {i j : Int} (hi : 0 ≤ i) (hj : j < B.asked.length) (hij : i < j) : (rpU B i).a < (rpU B j).a := by
  have := h.asc (d := j.toNat - i.toNat - 1) (i := i.toNat) (by omega)
  rw [show i.toNat + (j.toNat - i.toNat - 1) + 1 = j.toNat by omega] at this
  exact this
theorem OrdP.ne {B : Bx} {ord : List Int} (h : OrdP B ord) {i j : Int} (hi : 0 ≤ i ∧ i < B.asked.length) (hj : 0 ≤ j ∧ j < B.asked.length) (hij : i ≠ j) : (rpU B i).a ≠ (rpU B j).a := by
  rcases Int.lt_or_gt_of_ne hij with h1 | h1
  · have := h.less hi.1 hj.2 h1; omega
  · have := h.less hj.1 hi.2 h1; omega
theorem OrdP.m16 {B : Bx} {ord : List Int} (h : OrdP B ord) : B.asked.length ≤ 16 := askB_len (frmX_iff.1 h.frm).asked
theorem OrdP.a1 {B : Bx} {ord : List Int} (h : OrdP B ord) {i : Int} (hi : 0 ≤ i ∧ i < B.asked.length) : 1 ≤ (rpU B i).a ∧ (rpU B i).a ≤ 16 := (askB_iff.1 (frmX_iff.1 h.frm).asked i.toNat (by omega)).1
theorem OrdP.wf {B : Bx} {ord : List Int} (h : OrdP B ord) {i : Int} (hi : 0 ≤ i ∧ i < B.asked.length) : wfR (rpU B i) = true ∧ (rpU B i).Ok := by
  have hF := frmX_iff.1 h.frm
  have h1 := h.a1 hi
  have h2 := hF.host
  have h3 := hF.round
  have h4 := h.m16
  have e1 : inC (rpU B i).a 1 16 = true := inC_iff.2 h1
  have e2 : inC B.host 1 64 = true := inC_iff.2 h2
  have e3 : inC B.round 1 200 = true := inC_iff.2 h3
  constructor
  · have f1 : (rpU B i).h = B.host := rfl
    have f2 : (rpU B i).r = B.round := rfl
    have f3 : (rpU B i).lo = 10 * i := rfl
    have f4 : (rpU B i).hi = 10 * i + 3 := rfl
    have f5 : (rpU B i).k = 0 ∧ (rpU B i).t = 0 ∧ (rpU B i).c = 0 ∧ (rpU B i).s = 0 := ⟨rfl, rfl, rfl, rfl⟩
    unfold wfR idsB stampB restB
    rw [f1, f2, f3, f4, f5.1, f5.2.1, f5.2.2.1, f5.2.2.2, e1, e2, e3]
    simp [inC]
    omega
  · have n1 : (Lit.int .u64 (nonF B.head B.host B.round (Go.Proofs.YtdmfdimhjemngaaDoor.nth B.asked i.toNat))).wf = true := u64_wf (nonF_rng B.head B.host B.round (Go.Proofs.YtdmfdimhjemngaaDoor.nth B.asked i.toNat))
    have a1 : (Lit.int .i64 (Go.Proofs.YtdmfdimhjemngaaDoor.nth B.asked i.toNat)).wf = true := by
      have : 1 ≤ Go.Proofs.YtdmfdimhjemngaaDoor.nth B.asked i.toNat ∧ Go.Proofs.YtdmfdimhjemngaaDoor.nth B.asked i.toNat ≤ 16 := h1
      exact wf_of_i64 (by omega) (by omega)
    have hq : ∀ N, (Lit.int .u64 N).wf = true → (⟨B.host, Go.Proofs.YtdmfdimhjemngaaDoor.nth B.asked i.toNat, B.round, N⟩ : Rq).Ok := fun N hN => ⟨h.ok.host, a1, h.ok.round, hN⟩
    have q1 := hq _ n1
    exact ansR_ok q1 (wf_of_i64 (by omega) (by omega)) (wf_of_i64 (by omega) (by omega))
theorem OrdP.nth {B : Bx} {ord : List Int} (h : OrdP B ord) {k : Nat} (hk : k < ord.length) : 0 ≤ nth ord k ∧ nth ord k < B.asked.length := h.rng _ (nth_mem hk)
theorem OrdP.new {B : Bx} {ord : List Int} (h : OrdP B ord) {k : Nat} (hk : k < ord.length) : ∀ j ∈ ord.take k, j ≠ Go.Proofs.YtdmfdimhjemngaaDoor.nth ord k := by
  intro j hj e
  have h1 : (ord.take (k + 1)).Nodup := h.nd.sublist (List.take_sublist _ _)
  rw [take_nth_succ hk, List.nodup_append] at h1
  exact h1.2.2 j hj (Go.Proofs.YtdmfdimhjemngaaDoor.nth ord k) (by simp) e
theorem ansU_succ {B : Bx} {ord : List Int} {k : Nat} (hk : k < ord.length) : ansU B (ord.take (k + 1)) = insR (rpU B (nth ord k)) (ansU B (ord.take k)) := by
  unfold ansU
  rw [take_nth_succ hk, List.foldl_append]
  rfl
theorem ansU_mem {B : Bx} {ord : List Int} : ∀ {k : Nat}, k ≤ ord.length → ∀ x, x ∈ ansU B (ord.take k) ↔ ∃ j ∈ ord.take k, x = rpU B j
  | 0, _, x => by simp [ansU]
  | k + 1, hk, x => by
    rw [ansU_succ hk, mem_insR, ansU_mem (by omega : k ≤ ord.length) x, take_nth_succ hk]
    constructor
    · rintro (h | ⟨j, hj, h⟩)
      · exact ⟨_, List.mem_append.2 (.inr (by simp)), h⟩
      · exact ⟨j, List.mem_append.2 (.inl hj), h⟩
    · rintro ⟨j, hj, h⟩
      rcases List.mem_append.1 hj with h1 | h1
      · exact .inr ⟨j, h1, h⟩
      · simp only [List.mem_singleton] at h1
        subst h1
        exact .inl h
theorem ansU_len (B : Bx) : ∀ (ord : List Int) (g : List Rp), (ord.foldl (fun g i => insR (rpU B i) g) g).length = g.length + ord.length
  | [], g => rfl
  | i :: ord, g => by
    rw [List.foldl_cons, ansU_len B ord, insR_len, List.length_cons]
    omega
theorem OrdP.own {B : Bx} {ord : List Int} (h : OrdP B ord) {i : Int} (hi : 0 ≤ i ∧ i < B.asked.length) (g : List Rp) : ownB { B with got := g } (rpU B i) = true := by
  have : Go.Proofs.YtdmfdimhjemngaaDoor.nth B.asked i.toNat ∈ B.asked := nth_mem (by omega)
  unfold ownB
  simp only [rpU, ansR, rq1, beq_self_eq_true, Bool.and_self, Bool.and_true, decide_eq_true_eq]
  exact decide_eq_true this
theorem OrdP.any {B : Bx} {ord : List Int} (h : OrdP B ord) {k : Nat} (hk : k < ord.length) : ((ansU B (ord.take k)).any fun x => x.a == (rpU B (Go.Proofs.YtdmfdimhjemngaaDoor.nth ord k)).a) = false := by
  rw [List.any_eq_false]
  intro x hx
  obtain ⟨j, hj, rfl⟩ := (ansU_mem (by omega) x).1 hx
  have := h.ne (h.rng j (List.mem_of_mem_take hj)) (h.nth hk) (h.new hk j hj)
  simpa using this
/-- Each answer is fresh, and the same again a replay. -/
theorem OrdP.step {B : Bx} {ord : List Int} (h : OrdP B ord) {k : Nat} (hk : k < ord.length) (hf : frmX (bxO B (ord.take k)) = true) :
    tkE (bxO B (ord.take k)) B.sent = 0 ∧ tkK (bxO B (ord.take k)) (some (rpU B (Go.Proofs.YtdmfdimhjemngaaDoor.nth ord k))) B.sent = 1 ∧ tkB (bxO B (ord.take k)) (some (rpU B (Go.Proofs.YtdmfdimhjemngaaDoor.nth ord k))) B.sent = bxO B (ord.take (k + 1)) ∧ frmX (bxO B (ord.take (k + 1))) = true ∧
    tkE (bxO B (ord.take (k + 1))) B.sent = 0 ∧ tkK (bxO B (ord.take (k + 1))) (some (rpU B (Go.Proofs.YtdmfdimhjemngaaDoor.nth ord k))) B.sent = 2 ∧ tkB (bxO B (ord.take (k + 1))) (some (rpU B (Go.Proofs.YtdmfdimhjemngaaDoor.nth ord k))) B.sent = bxO B (ord.take (k + 1)) := by
  have hF := frmX_iff.1 h.frm
  have hs := hF.sent
  have hw := hF.wait
  have hi := h.nth hk
  have e1 : tkE (bxO B (ord.take k)) B.sent = 0 := tkE_zero hf hs.1 hs.2 (Int.le_refl _)
  have k1 : kdX (bxO B (ord.take k)) (some (rpU B (Go.Proofs.YtdmfdimhjemngaaDoor.nth ord k))) B.sent = 1 := kd_fresh.2 ⟨h.own hi _, h.any hk, by show ¬ B.sent + B.wait < B.sent; omega⟩
  have t1 := tkB_fresh e1 k1
  have hb : ({ bxO B (ord.take k) with got := insR (rpU B (Go.Proofs.YtdmfdimhjemngaaDoor.nth ord k)) (bxO B (ord.take k)).got } : Bx) = bxO B (ord.take (k + 1)) := by
    unfold bxO
    rw [ansU_succ hk]
  have hf2 : frmX (bxO B (ord.take (k + 1))) = true := by
    rw [← hb]
    have := tk_frm (p := some (rpU B (Go.Proofs.YtdmfdimhjemngaaDoor.nth ord k))) (t := B.sent) hf (fun r hr => by cases hr; exact (h.wf hi).1)
    rw [got_some, if_pos k1] at this
    exact this
  have e2 : tkE (bxO B (ord.take (k + 1))) B.sent = 0 := tkE_zero hf2 hs.1 hs.2 (Int.le_refl _)
  have k2 : kdX (bxO B (ord.take (k + 1))) (some (rpU B (Go.Proofs.YtdmfdimhjemngaaDoor.nth ord k))) B.sent = 2 := by
    have ho := h.own hi (ansU B (ord.take (k + 1)))
    have ha : ((ansU B (ord.take (k + 1))).any fun x => x.a == (rpU B (Go.Proofs.YtdmfdimhjemngaaDoor.nth ord k)).a) = true := by
      rw [List.any_eq_true]
      refine ⟨rpU B (Go.Proofs.YtdmfdimhjemngaaDoor.nth ord k), ?_, by simp⟩
      rw [ansU_succ hk]
      exact mem_insR.2 (.inl rfl)
    unfold kdX kindX
    show (if ownB _ _ = false then _ else if ((ansU B (ord.take (k + 1))).any fun x => x.a == (rpU B (Go.Proofs.YtdmfdimhjemngaaDoor.nth ord k)).a) = true then _ else _) = _
    rw [show ownB (bxO B (ord.take (k + 1))) (rpU B (Go.Proofs.YtdmfdimhjemngaaDoor.nth ord k)) = true from ho, ha]
    rfl
  have t2 := tkB_same e2 k2 (by decide)
  exact ⟨e1, t1.2, t1.1.trans hb, hf2, e2, t2.2, t2.1⟩
theorem OrdP.frmO {B : Bx} {ord : List Int} (h : OrdP B ord) : ∀ {k : Nat}, k ≤ ord.length → frmX (bxO B (ord.take k)) = true
  | 0, _ => by
    have : bxO B (ord.take 0) = B := by unfold bxO ansU; simp only [List.take_zero, List.foldl_nil]; rw [← h.got]
    rw [this]
    exact h.frm
  | k + 1, hk => (h.step hk (OrdP.frmO h (by omega))).2.2.2.1
theorem bxO_zero {B : Bx} {ord : List Int} (h : OrdP B ord) : bxO B (ord.take 0) = B := by unfold bxO ansU; simp only [List.take_zero, List.foldl_nil]; rw [← h.got]
theorem ansU_perm {B : Bx} {ord ord' : List Int} (h : OrdP B ord) (hp : ord.Perm ord') : bxO B ord = bxO B ord' := by
  have : ansU B ord = ansU B ord' := by
    unfold ansU
    refine List.Perm.foldl_eq' hp (fun x hx y hy z => ?_) []
    by_cases e : x = y
    · subst e; rfl
    · exact insR_comm (h.ne (h.rng y hy) (h.rng x hx) (Ne.symm e)) z
  unfold bxO
  rw [this]
theorem OrdP.perm {B : Bx} {ord ord' : List Int} (h : OrdP B ord) (hp : ord.Perm ord') : OrdP B ord' := ⟨h.frm, h.ok, h.got, fun i hi => h.rng i (hp.mem_iff.2 hi), hp.nodup_iff.1 h.nd⟩
/-- Answers that rise are put one behind the other. -/
theorem ansU_rise {B : Bx} {ord : List Int} (h : OrdP B ord) (ha : ∀ i j, i < j → j < ord.length → nth ord i < nth ord j) : ∀ {k : Nat}, k ≤ ord.length → ansU B (ord.take k) = (ord.take k).map (rpU B)
  | 0, _ => rfl
  | k + 1, hk => by
    have hn : ((ansU B (ord.take k)).any fun x => decide ((rpU B (nth ord k)).a < x.a)) = false := by
      rw [List.any_eq_false]
      intro x hx
      obtain ⟨j, hj, rfl⟩ := (ansU_mem (by omega) x).1 hx
      obtain ⟨i, hi, he⟩ := List.getElem_of_mem hj
      have hi2 : i < k := by rw [List.length_take] at hi; omega
      have hv : nth ord i = j := by
        rw [← he, ← nth_take (xs := ord) hi2, nth_eq, List.getD_eq_getElem?_getD, List.getElem?_eq_getElem hi]
        rfl
      have h1 := ha i k hi2 hk
      have h2 := h.less (h.rng j (List.mem_of_mem_take hj)).1 (h.nth hk).2 (by omega)
      simp only [decide_eq_true_eq]
      omega
    rw [ansU_succ hk, ansU_rise h ha (by omega), take_nth_succ hk, List.map_append, ← ansU_rise h ha (by omega)]
    have := insR_none (m := []) hn
    rw [List.append_nil] at this
    rw [this]
    rfl
end Go.Proofs.YtdmfdimhjemngaaDoor
