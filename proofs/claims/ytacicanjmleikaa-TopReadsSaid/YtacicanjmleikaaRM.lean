/-
  What is so in the law's drawn region, where a later transaction is stamped. Written by wip/gen_rm.py.
-/
import Derived.Test.YtacicanjmleikaaRI
import Derived.Test.YtacicanjmleikaaLibH
namespace Go.Proofs.Ytacicanjmleikaa
open Go.RowKit Go.Sort Go.Shelf
set_option linter.unusedSimpArgs false
set_option linter.unusedVariables false
set_option maxRecDepth 100000

def cL (r : LdR) : Array Value := #[.int .i64 r.last, .slice r.sa r.sn r.sc, .slice r.oa r.on r.oc]
def cT (q : TxR) : Array Value := #[.int .i64 q.id, .int .i64 q.ts, .slice q.ra q.rn q.rc, .slice q.wa q.wn q.wc]
def ptr (b : Nat) : Value := .pointer (some ⟨b, 0, none⟩)
theorem ptr_ne {a b : Nat} (h : a ≠ b) : ptr a ≠ ptr b := by
  intro e
  unfold ptr at e
  injection e with e
  injection e with e
  injection e with e
  exact h e
theorem ptr_inj {a b : Nat} (h : ptr a = ptr b) : a = b := by
  rcases Nat.decEq a b with h2 | h2
  · exact absurd h (ptr_ne h2)
  · exact h2
/-- What Stamp's answer says, in the world that it left. -/
def Gd (S : Nat) (W : World) (l : Ld) (t : Tx) (qid hi2 : Int) (qrn qwn : Nat) (r9 : LdR) (q9 : TxR) (E : Int) : Prop :=
  E ≠ 0 ∨ (E = 0 ∧ (∃ B, stE l t hi2 B = 0) ∧ q9.id = qid ∧ q9.ts = max (l.last + 1) hi2 ∧ q9.rn = qrn ∧ q9.wn = qwn ∧ LdD S W r9 (stampL l t hi2) ∧ OwR 77 S W q9.ra q9.rn q9.rc t.rd ∧ OwR 60 S W q9.wa q9.wn q9.wc t.wr)
theorem Gd.keep {S : Nat} {W W' : World} {l : Ld} {t : Tx} {qid hi2 : Int} {qrn qwn : Nat} {r9 : LdR} {q9 : TxR} {E : Int} (h : Gd S W l t qid hi2 qrn qwn r9 q9 E) (hw : ∀ k, S ≤ k → k < W.heap.size → W'.heap[k]? = W.heap[k]?) : Gd S W' l t qid hi2 qrn qwn r9 q9 E := by
  rcases h with h | ⟨h0, h1, h2, h3, h4, h5, h6, h7, h8⟩
  · exact .inl h
  · exact .inr ⟨h0, h1, h2, h3, h4, h5, h6.keep hw, h7.keepHi hw, h8.keepHi hw⟩
/-- Stamp's answer, as one value; what its parts are. -/
def v14 (r9 : LdR) (q9 : TxR) (E : Int) : Value := .tuple #[.agg (cL r9), .agg (cT q9), .int .i64 E]
def vPart (i : Nat) (r9 : LdR) (q9 : TxR) (E : Int) : Value := if i = 15 then v14 r9 q9 E else if i = 16 then .agg (cL r9) else if i = 17 then .agg (cT q9) else .int .i64 E
def isPart (i : Nat) : Bool := i == 15 || i == 16 || i == 17 || i == 18 || i == 23
theorem stp_gd {l : Ld} {q : TxR} {t : Tx} {hi : Int} {w w' : World} {e : Ending} (h : StP l q t hi w e w') : ∃ r9 q9 E, e = .returned (v14 r9 q9 E) ∧ Gd w.heap.size w' l t q.id hi q.rn q.wn r9 q9 E ∧ Ext w w' := by
  obtain ⟨v, rfl, B, (⟨h1, rfl, h2⟩ | ⟨h1, r', a1, c1, a2, c2, rfl, h2, h3, h4, h5⟩)⟩ := stp_v h
  · exact ⟨⟨0, none, 0, 0, none, 0, 0⟩, ⟨0, 0, none, 0, 0, none, 0, 0⟩, _, rfl, .inl h1, h2⟩
  · exact ⟨r', ⟨q.id, max (l.last + 1) hi, a1, q.rn, c1, a2, q.wn, c2⟩, 0, rfl, .inr ⟨rfl, ⟨B, h1⟩, rfl, rfl, rfl, rfl, h2, h3, h4⟩, h5⟩
/-- What is known of Stamp's answer (slot 14), and of what it goes to. -/
structure C18 (l : Ld) (t : Tx) (qid hi2 : Int) (qrn qwn : Nat) (listed : Nat → Bool) (vs : List Value) (W : World) (S : Nat) (X : World) (r9 : LdR) (q9 : TxR) (E : Int) : Prop where
  v : vs.getD 14 undef = v14 r9 q9 E
  g : Gd S X l t qid hi2 qrn qwn r9 q9 E
  xw : X.heap.size ≤ W.heap.size
  k : ∀ k, S ≤ k → k < X.heap.size → W.heap[k]? = X.heap[k]?
  p : ∀ i, isPart i = true → listed i = true → vs.getD i undef = vPart i r9 q9 E
  b19 : listed 19 = true → ∃ b, vs.getD 19 undef = ptr b ∧ (b < S ∨ X.heap.size ≤ b)
  b20 : listed 20 = true → ∃ b, vs.getD 20 undef = ptr b ∧ (b < S ∨ X.heap.size ≤ b)
  s21 : listed 21 = true → ∃ b, vs.getD 19 undef = ptr b ∧ Bk W b 36 (cL r9)
  s22 : listed 22 = true → ∃ b, vs.getD 20 undef = ptr b ∧ Bk W b 26 (cT q9)
/-- What is so in region 18. -/
structure I18 (U : World) (l : Ld) (t : Tx) (qid hi2 : Int) (qrn qwn : Nat) (listed : Nat → Bool) (vs : List Value) (W : World) : Prop where
  e : Ext U W
  c : listed 14 = true → ∃ S X r9 q9 E, C18 l t qid hi2 qrn qwn listed vs W S X r9 q9 E
  a : listed 19 = true → ∃ b, vs.getD 19 undef = ptr b ∧ U.heap.size ≤ b ∧ b < W.heap.size ∧ (listed 21 = false → Bk W b 36 #[.int .i64 0, .slice none 0 0, .slice none 0 0])
  b : listed 20 = true → ∃ b, vs.getD 20 undef = ptr b ∧ U.heap.size ≤ b ∧ b < W.heap.size ∧ (listed 22 = false → Bk W b 26 #[.int .i64 0, .int .i64 0, .slice none 0 0, .slice none 0 0])
  n : listed 19 = true → listed 20 = true → vs.getD 19 undef ≠ vs.getD 20 undef
theorem getD_set_ne' {vs : List Value} {i k : Nat} {v : Value} (h : i ≠ k) : (vs.set i v).getD k undef = vs.getD k undef := by rw [List.getD_eq_getElem?_getD, List.getElem?_set_ne h, List.getD_eq_getElem?_getD]
theorem getD_set_eq' {vs : List Value} {i : Nat} {v : Value} (h : i < vs.length) : (vs.set i v).getD i undef = v := by rw [List.getD_eq_getElem?_getD, List.getElem?_set_self h]; rfl
theorem upd_eq {listed : Nat → Bool} {i : Nat} : updE listed i i = true := by simp [updE]
section
variable {U : World} {l : Ld} {t : Tx} {qid hi2 : Int} {qrn qwn : Nat} {listed : Nat → Bool} {vs : List Value} {W W' : World}
/-- The operations ahead of Stamp, and those that take its answer apart. -/
theorem I18.other (h : I18 U l t qid hi2 qrn qwn listed vs W) {i : Nat} {v : Value} (hi : i ≠ 14) (h19 : i ≠ 19) (h20 : i ≠ 20) (h21 : i ≠ 21) (h22 : i ≠ 22) (hl : i < vs.length) (hx : Ext W W') (hp : isPart i = true → ∀ r9 q9 E, vs.getD 14 undef = v14 r9 q9 E → (∀ k, isPart k = true → listed k = true → vs.getD k undef = vPart k r9 q9 E) → v = vPart i r9 q9 E) : I18 U l t qid hi2 qrn qwn (updE listed i) (vs.set i v) W' := by
  refine ⟨h.e.trans hx, ?_, ?_, ?_, ?_⟩
  · rw [upd_ne hi]
    intro q
    obtain ⟨S, X, r9, q9, E, c⟩ := h.c q
    refine ⟨S, X, r9, q9, E, ⟨by rw [getD_set_ne' hi]; exact c.v, c.g, Nat.le_trans c.xw hx.sz, fun k h1 h2 => (hx.block k (by have := c.xw; omega)).trans (c.k k h1 h2), ?_, ?_, ?_, ?_, ?_⟩⟩
    · intro k hk hk2
      by_cases he : i = k
      · subst he
        rw [getD_set_eq' hl]
        exact hp hk r9 q9 E c.v c.p
      · rw [upd_ne he] at hk2
        rw [getD_set_ne' he]
        exact c.p k hk hk2
    · rw [upd_ne h19, getD_set_ne' h19]; exact c.b19
    · rw [upd_ne h20, getD_set_ne' h20]; exact c.b20
    · rw [upd_ne h21, getD_set_ne' h19]; exact fun q => let ⟨b, p1, p2⟩ := c.s21 q; ⟨b, p1, p2.ext hx⟩
    · rw [upd_ne h22, getD_set_ne' h20]; exact fun q => let ⟨b, p1, p2⟩ := c.s22 q; ⟨b, p1, p2.ext hx⟩
  · rw [upd_ne h19, upd_ne h21, getD_set_ne' h19]
    exact fun q => let ⟨b, p1, p2, p3, p4⟩ := h.a q; ⟨b, p1, p2, Nat.lt_of_lt_of_le p3 hx.sz, fun q' => (p4 q').ext hx⟩
  · rw [upd_ne h20, upd_ne h22, getD_set_ne' h20]
    exact fun q => let ⟨b, p1, p2, p3, p4⟩ := h.b q; ⟨b, p1, p2, Nat.lt_of_lt_of_le p3 hx.sz, fun q' => (p4 q').ext hx⟩
  · rw [upd_ne h19, upd_ne h20, getD_set_ne' h19, getD_set_ne' h20]
    exact h.n
/-- Stamp. -/
theorem I18.call (h : I18 U l t qid hi2 qrn qwn listed vs W) {r9 : LdR} {q9 : TxR} {E : Int} (hl : 14 < vs.length) (hx : Ext W W') (hg : Gd W.heap.size W' l t qid hi2 qrn qwn r9 q9 E) (hn : ∀ i, isPart i = true → listed i = false) (n21 : listed 21 = false) (n22 : listed 22 = false) : I18 U l t qid hi2 qrn qwn (updE listed 14) (vs.set 14 (v14 r9 q9 E)) W' := by
  refine ⟨h.e.trans hx, ?_, ?_, ?_, ?_⟩
  · intro _
    refine ⟨W.heap.size, W', r9, q9, E, ⟨getD_set_eq' hl, hg, Nat.le_refl _, fun _ _ _ => rfl, ?_, ?_, ?_, ?_, ?_⟩⟩
    · intro i hi hi2
      have : 14 ≠ i := by rintro rfl; exact absurd hi (by decide)
      rw [upd_ne this, hn i hi] at hi2; cases hi2
    · rw [upd_ne (by decide), getD_set_ne' (by decide)]; exact fun q => let ⟨b, p1, _, p2, _⟩ := h.a q; ⟨b, p1, .inl p2⟩
    · rw [upd_ne (by decide), getD_set_ne' (by decide)]; exact fun q => let ⟨b, p1, _, p2, _⟩ := h.b q; ⟨b, p1, .inl p2⟩
    · rw [upd_ne (by decide), n21]; exact fun q => by cases q
    · rw [upd_ne (by decide), n22]; exact fun q => by cases q
  · rw [upd_ne (by decide), upd_ne (by decide), getD_set_ne' (by decide)]
    exact fun q => let ⟨b, p1, p2, p3, p4⟩ := h.a q; ⟨b, p1, p2, Nat.lt_of_lt_of_le p3 hx.sz, fun q' => (p4 q').ext hx⟩
  · rw [upd_ne (by decide), upd_ne (by decide), getD_set_ne' (by decide)]
    exact fun q => let ⟨b, p1, p2, p3, p4⟩ := h.b q; ⟨b, p1, p2, Nat.lt_of_lt_of_le p3 hx.sz, fun q' => (p4 q').ext hx⟩
  · rw [upd_ne (by decide), upd_ne (by decide), getD_set_ne' (by decide), getD_set_ne' (by decide)]
    exact h.n
/-- The leader's new block. -/
theorem I18.al19 (h : I18 U l t qid hi2 qrn qwn listed vs W) (hl : 19 < vs.length) (n21 : listed 21 = false) : I18 U l t qid hi2 qrn qwn (updE listed 19) (vs.set 19 (ptr W.heap.size)) (W.alloc (.cells #[.int .i64 0, .slice none 0 0, .slice none 0 0] 36)) := by
  have hx : Ext W (W.alloc (.cells #[.int .i64 0, .slice none 0 0, .slice none 0 0] 36)) := (Ext.refl W).alloc _
  refine ⟨h.e.trans hx, ?_, ?_, ?_, ?_⟩
  · rw [upd_ne (by decide)]
    intro q
    obtain ⟨S, X, r9, q9, E, c⟩ := h.c q
    refine ⟨S, X, r9, q9, E, ⟨by rw [getD_set_ne' (by decide)]; exact c.v, c.g, Nat.le_trans c.xw hx.sz, fun k h1 h2 => (hx.block k (by have := c.xw; omega)).trans (c.k k h1 h2), ?_, ?_, ?_, ?_, ?_⟩⟩
    · intro k hk hk2
      have he : 19 ≠ k := by rintro rfl; exact absurd hk (by decide)
      rw [upd_ne he] at hk2
      rw [getD_set_ne' he]
      exact c.p k hk hk2
    · exact fun _ => ⟨_, getD_set_eq' hl, .inr c.xw⟩
    · rw [upd_ne (by decide), getD_set_ne' (by decide)]; exact c.b20
    · rw [upd_ne (by decide), n21]; exact fun q => by cases q
    · rw [upd_ne (by decide), getD_set_ne' (by decide)]; exact fun q => let ⟨b, p1, p2⟩ := c.s22 q; ⟨b, p1, p2.ext hx⟩
  · exact fun _ => ⟨_, getD_set_eq' hl, h.e.sz, (Bk.new W _ _).lt, fun _ => Bk.new W _ _⟩
  · rw [upd_ne (by decide), upd_ne (by decide), getD_set_ne' (by decide)]
    exact fun q => let ⟨b, p1, p2, p3, p4⟩ := h.b q; ⟨b, p1, p2, Nat.lt_of_lt_of_le p3 hx.sz, fun q' => (p4 q').ext hx⟩
  · rw [upd_ne (show 19 ≠ 20 by decide), getD_set_ne' (show 19 ≠ 20 by decide), getD_set_eq' hl]
    intro _ q
    obtain ⟨b, p1, _, p3, _⟩ := h.b q
    rw [p1]
    exact ptr_ne (by omega)
/-- The transaction's new block. -/
theorem I18.al20 (h : I18 U l t qid hi2 qrn qwn listed vs W) (hl : 20 < vs.length) (n22 : listed 22 = false) : I18 U l t qid hi2 qrn qwn (updE listed 20) (vs.set 20 (ptr W.heap.size)) (W.alloc (.cells #[.int .i64 0, .int .i64 0, .slice none 0 0, .slice none 0 0] 26)) := by
  have hx : Ext W (W.alloc (.cells #[.int .i64 0, .int .i64 0, .slice none 0 0, .slice none 0 0] 26)) := (Ext.refl W).alloc _
  refine ⟨h.e.trans hx, ?_, ?_, ?_, ?_⟩
  · rw [upd_ne (by decide)]
    intro q
    obtain ⟨S, X, r9, q9, E, c⟩ := h.c q
    refine ⟨S, X, r9, q9, E, ⟨by rw [getD_set_ne' (by decide)]; exact c.v, c.g, Nat.le_trans c.xw hx.sz, fun k h1 h2 => (hx.block k (by have := c.xw; omega)).trans (c.k k h1 h2), ?_, ?_, ?_, ?_, ?_⟩⟩
    · intro k hk hk2
      have he : 20 ≠ k := by rintro rfl; exact absurd hk (by decide)
      rw [upd_ne he] at hk2
      rw [getD_set_ne' he]
      exact c.p k hk hk2
    · rw [upd_ne (by decide), getD_set_ne' (by decide)]; exact c.b19
    · exact fun _ => ⟨_, getD_set_eq' hl, .inr c.xw⟩
    · rw [upd_ne (by decide), getD_set_ne' (by decide)]; exact fun q => let ⟨b, p1, p2⟩ := c.s21 q; ⟨b, p1, p2.ext hx⟩
    · rw [upd_ne (by decide), n22]; exact fun q => by cases q
  · rw [upd_ne (by decide), upd_ne (by decide), getD_set_ne' (by decide)]
    exact fun q => let ⟨b, p1, p2, p3, p4⟩ := h.a q; ⟨b, p1, p2, Nat.lt_of_lt_of_le p3 hx.sz, fun q' => (p4 q').ext hx⟩
  · exact fun _ => ⟨_, getD_set_eq' hl, h.e.sz, (Bk.new W _ _).lt, fun _ => Bk.new W _ _⟩
  · rw [upd_ne (show 20 ≠ 19 by decide), getD_set_ne' (show 20 ≠ 19 by decide), getD_set_eq' hl]
    intro q _
    obtain ⟨b, p1, _, p3, _⟩ := h.a q
    rw [p1]
    exact ptr_ne (by omega)
/-- What the stores find. -/
theorem I18.at21 (h : I18 U l t qid hi2 qrn qwn listed vs W) (y14 : listed 14 = true) (y16 : listed 16 = true) (y19 : listed 19 = true) (n21 : listed 21 = false) : ∃ b r9, vs.getD 19 undef = ptr b ∧ vs.getD 16 undef = .agg (cL r9) ∧ Bk W b 36 #[.int .i64 0, .slice none 0 0, .slice none 0 0] ∧
    (20 < vs.length → listed 20 = true → listed 22 = false → ∀ v, I18 U l t qid hi2 qrn qwn (updE listed 21) (vs.set 21 v) (((W.setCell ⟨b, 0, none⟩ (.int .i64 r9.last)).setCell ⟨b, 1, none⟩ (.slice r9.sa r9.sn r9.sc)).setCell ⟨b, 2, none⟩ (.slice r9.oa r9.on r9.oc))) := by
  obtain ⟨b, p1, p2, p3, p4⟩ := h.a y19
  obtain ⟨S, X, r9, q9, E, c⟩ := h.c y14
  have hb := p4 n21
  refine ⟨b, r9, p1, c.p 16 (by decide) y16, hb, fun hl y20 n22 v => ?_⟩
  have hne : ∀ b', vs.getD 20 undef = ptr b' → b ≠ b' := by
    intro b' h1 h2
    exact h.n y19 y20 (by rw [p1, h1, h2])
  have hbs : b < S ∨ X.heap.size ≤ b := by
    obtain ⟨b', h1, h2⟩ := c.b19 y19
    rw [p1] at h1
    rw [ptr_inj h1]; exact h2
  refine ⟨h.e.set3 p2 _ _ _, ?_, ?_, ?_, ?_⟩
  · intro _
    refine ⟨S, X, r9, q9, E, ⟨by rw [getD_set_ne' (by decide)]; exact c.v, c.g, by simp [World.setCell]; exact c.xw, fun k h1 h2 => ?_, ?_, ?_, ?_, ?_, ?_⟩⟩
    · rw [heap_setCell_other _ ⟨b, 2, none⟩ k _ (by simp only; omega), heap_setCell_other _ ⟨b, 1, none⟩ k _ (by simp only; omega), heap_setCell_other _ ⟨b, 0, none⟩ k _ (by simp only; omega)]
      exact c.k k h1 h2
    · intro k hk hk2
      have he : 21 ≠ k := by rintro rfl; exact absurd hk (by decide)
      rw [upd_ne he] at hk2
      rw [getD_set_ne' he]
      exact c.p k hk hk2
    · rw [upd_ne (by decide), getD_set_ne' (by decide)]; exact c.b19
    · rw [upd_ne (by decide), getD_set_ne' (by decide)]; exact c.b20
    · rw [getD_set_ne' (by decide)]; exact fun _ => ⟨b, p1, hb.set3 _ _ _⟩
    · rw [upd_ne (by decide), n22]; exact fun q => by cases q
  · rw [upd_ne (by decide), getD_set_ne' (by decide)]
    exact fun _ => ⟨b, p1, p2, by simp [World.setCell]; exact p3, fun q => by rw [upd_eq] at q; cases q⟩
  · rw [upd_ne (by decide), upd_ne (by decide), getD_set_ne' (by decide)]
    exact fun q => let ⟨b', q1, q2, q3, q4⟩ := h.b q; ⟨b', q1, q2, by simp [World.setCell]; exact q3, fun q' => (q4 q').other3 (hne b' q1) _ _ _⟩
  · rw [upd_ne (by decide), upd_ne (by decide), getD_set_ne' (by decide), getD_set_ne' (by decide)]
    exact h.n
theorem I18.at22 (h : I18 U l t qid hi2 qrn qwn listed vs W) (y14 : listed 14 = true) (y17 : listed 17 = true) (y19 : listed 19 = true) (y20 : listed 20 = true) (y21 : listed 21 = true) (n22 : listed 22 = false) : ∃ b q9, vs.getD 20 undef = ptr b ∧ vs.getD 17 undef = .agg (cT q9) ∧ Bk W b 26 #[.int .i64 0, .int .i64 0, .slice none 0 0, .slice none 0 0] ∧
    (∀ v, I18 U l t qid hi2 qrn qwn (updE listed 22) (vs.set 22 v) ((((W.setCell ⟨b, 0, none⟩ (.int .i64 q9.id)).setCell ⟨b, 1, none⟩ (.int .i64 q9.ts)).setCell ⟨b, 2, none⟩ (.slice q9.ra q9.rn q9.rc)).setCell ⟨b, 3, none⟩ (.slice q9.wa q9.wn q9.wc))) := by
  obtain ⟨b, p1, p2, p3, p4⟩ := h.b y20
  obtain ⟨S, X, r9, q9, E, c⟩ := h.c y14
  have hb := p4 n22
  refine ⟨b, q9, p1, c.p 17 (by decide) y17, hb, fun v => ?_⟩
  have hne : ∀ b', vs.getD 19 undef = ptr b' → b ≠ b' := by
    intro b' h1 h2
    exact h.n y19 y20 (by rw [p1, h1, h2])
  have hbs : b < S ∨ X.heap.size ≤ b := by
    obtain ⟨b', h1, h2⟩ := c.b20 y20
    rw [p1] at h1
    rw [ptr_inj h1]; exact h2
  refine ⟨h.e.set4 p2 _ _ _ _, ?_, ?_, ?_, ?_⟩
  · intro _
    refine ⟨S, X, r9, q9, E, ⟨by rw [getD_set_ne' (by decide)]; exact c.v, c.g, by simp [World.setCell]; exact c.xw, fun k h1 h2 => ?_, ?_, ?_, ?_, ?_, ?_⟩⟩
    · rw [heap_setCell_other _ ⟨b, 3, none⟩ k _ (by simp only; omega), heap_setCell_other _ ⟨b, 2, none⟩ k _ (by simp only; omega), heap_setCell_other _ ⟨b, 1, none⟩ k _ (by simp only; omega), heap_setCell_other _ ⟨b, 0, none⟩ k _ (by simp only; omega)]
      exact c.k k h1 h2
    · intro k hk hk2
      have he : 22 ≠ k := by rintro rfl; exact absurd hk (by decide)
      rw [upd_ne he] at hk2
      rw [getD_set_ne' he]
      exact c.p k hk hk2
    · rw [upd_ne (by decide), getD_set_ne' (by decide)]; exact c.b19
    · rw [upd_ne (by decide), getD_set_ne' (by decide)]; exact c.b20
    · rw [upd_ne (by decide), getD_set_ne' (by decide)]; exact fun q => let ⟨b', q1, q2⟩ := c.s21 q; ⟨b', q1, q2.other4 (hne b' q1) _ _ _ _⟩
    · rw [getD_set_ne' (by decide)]; exact fun _ => ⟨b, p1, hb.set4 _ _ _ _⟩
  · rw [upd_ne (by decide), upd_ne (by decide), getD_set_ne' (by decide), y21]
    exact fun q => let ⟨b', q1, q2, q3, q4⟩ := h.a q; ⟨b', q1, q2, by simp [World.setCell]; exact q3, fun q' => by cases q'⟩
  · rw [upd_ne (by decide), getD_set_ne' (by decide)]
    exact fun _ => ⟨b, p1, p2, by simp [World.setCell]; exact p3, fun q => by rw [upd_eq] at q; cases q⟩
  · rw [upd_ne (by decide), upd_ne (by decide), getD_set_ne' (by decide), getD_set_ne' (by decide)]
    exact h.n
/-- When all is done. -/
theorem I18.fin (h : I18 U l t qid hi2 qrn qwn listed vs W) (hy : ∀ i, i < 24 → listed i = true) : ∃ S r9 q9 E mb nb, Ext U W ∧ Gd S W l t qid hi2 qrn qwn r9 q9 E ∧ vs.getD 19 undef = ptr mb ∧ vs.getD 20 undef = ptr nb ∧ vs.getD 23 undef = .int .i64 E ∧ Bk W mb 36 (cL r9) ∧ Bk W nb 26 (cT q9) := by
  obtain ⟨S, X, r9, q9, E, c⟩ := h.c (hy 14 (by decide))
  obtain ⟨mb, m1, m2⟩ := c.s21 (hy 21 (by decide))
  obtain ⟨nb, n1, n2⟩ := c.s22 (hy 22 (by decide))
  exact ⟨S, r9, q9, E, mb, nb, h.e, c.g.keep c.k, m1, n1, c.p 23 (by decide) (hy 23 (by decide)), m2, n2⟩
end
end Go.Proofs.Ytacicanjmleikaa
