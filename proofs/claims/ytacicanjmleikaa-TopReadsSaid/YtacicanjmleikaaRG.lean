/-
  r14Run, walked. Written by wip/gen_rg.py.
-/
import Derived.Test.YtacicanjmleikaaRF
namespace Go.Proofs.Ytacicanjmleikaa
open Go.RowKit Go.Sort Go.Shelf
set_option linter.unusedSimpArgs false
set_option linter.unusedVariables false
set_option maxRecDepth 100000

/-- A transaction's block, somewhere; the row of what was stamped. -/
def RelBx (r : TxR) : RelL Ext := ⟨none, fun _ v W => ∃ b, v = .slice (some ⟨b, 0, none⟩) 1 1 ∧ W.heap[b]? = some (.cells (Cel.enc r).toArray 26 (0, 0)), fun _ v W W' ⟨b, e, h⟩ hx => ⟨b, e, (hx.block b (Array.getElem?_eq_some_iff.1 h).1).trans h⟩⟩
def RelDn (B n : Nat) (d : List Tx) : RelL Ext := ⟨none, fun _ v W => ∃ g c, v = .slice (some ⟨g, 0, none⟩) n c ∧ OwD B W (some ⟨g, 0, none⟩) n c d, fun _ v W W' ⟨g, c, e, h⟩ hx => ⟨g, c, e, h.ext hx⟩⟩
/-- How the blocks lie. -/
structure RunL (w : World) (B S0 cb rb mb nb : Nat) (da : Option Addr) : Prop where
  lcb : cb < B
  lrb : rb < B
  lbs : B ≤ S0
  lwc : w.heap.size ≤ cb
  lne : cb ≠ rb
  lmb : S0 ≤ mb
  lnb : S0 ≤ nb
  lda : ∀ g, da = some ⟨g, 0, none⟩ → g < S0
/-- What is so while a course takes what was stamped. -/
structure RunI (w : World) (B S0 cb rb mb nb : Nat) (r : LdR) (l9 : Ld) (q : TxR) (t9 : Tx) (last : Int) (sa : Option Addr) (sn sc : Nat) (oa : Option Addr) (on oc : Nat) (da : Option Addr) (dn dc : Nat) (d : List Tx) (now : Int) (listed : Nat → Bool) (W : World) : Prop where
  e : Ext w W
  sz : B ≤ W.heap.size
  pre : listed 5 = false → OwD B W da dn dc d ∧ LdD S0 W r l9 ∧ OwR 77 S0 W q.ra q.rn q.rc t9.rd ∧ OwR 60 S0 W q.wa q.wn q.wc t9.wr
  ld : listed 5 = true → LdL W r l9
  m : Bk W mb 36 #[.int .i64 r.last, .slice r.sa r.sn r.sc, .slice r.oa r.on r.oc]
  n : Bk W nb 26 #[.int .i64 q.id, .int .i64 q.ts, .slice q.ra q.rn q.rc, .slice q.wa q.wn q.wc]
  c1 : listed 7 = false → Bk W cb 38 #[.int .i64 last, .slice sa sn sc, .slice oa on oc, .slice da dn dc, .int .i64 now, .bool true]
  c2 : listed 7 = true → listed 9 = false → Bk W cb 38 #[.int .i64 r.last, .slice r.sa r.sn r.sc, .slice r.oa r.on r.oc, .slice da dn dc, .int .i64 now, .bool true]
  c3 : listed 9 = true → ∃ g c, Bk W cb 38 #[.int .i64 r.last, .slice r.sa r.sn r.sc, .slice r.oa r.on r.oc, .slice (some ⟨g, 0, none⟩) (dn + 1) c, .int .i64 now, .bool true] ∧ OwD B W (some ⟨g, 0, none⟩) (dn + 1) c (d ++ [t9])
  rr : Bk W rb 38 #[.int .i64 0, .slice none 0 0, .slice none 0 0, .slice none 0 0, .int .i64 0, .bool false]
section
variable {w : World} {B S0 cb rb mb nb : Nat} {r : LdR} {l9 : Ld} {q : TxR} {t9 : Tx} {last : Int} {sa : Option Addr} {sn sc : Nat} {oa : Option Addr} {on oc : Nat} {da : Option Addr} {dn dc : Nat} {d : List Tx} {now : Int} {listed : Nat → Bool} {W W' : World}
theorem RunI.other (h : RunI w B S0 cb rb mb nb r l9 q t9 last sa sn sc oa on oc da dn dc d now listed W) {i : Nat} (h1 : i ≠ 5) (h2 : i ≠ 7) (h3 : i ≠ 9) (hx : Ext W W') : RunI w B S0 cb rb mb nb r l9 q t9 last sa sn sc oa on oc da dn dc d now (updE listed i) W' := by
  refine ⟨h.e.trans hx, Nat.le_trans h.sz hx.sz, ?_, ?_, h.m.ext hx, h.n.ext hx, ?_, ?_, ?_, h.rr.ext hx⟩
  · rw [upd_ne h1]; exact fun q => let ⟨p1, p2, p3, p4⟩ := h.pre q; ⟨p1.ext hx, p2.ext hx, p3.ext hx, p4.ext hx⟩
  · rw [upd_ne h1]; exact fun q => (h.ld q).ext hx
  · rw [upd_ne h2]; exact fun q => (h.c1 q).ext hx
  · rw [upd_ne h2, upd_ne h3]; exact fun q q' => (h.c2 q q').ext hx
  · rw [upd_ne h3]; exact fun q => let ⟨g, c, p1, p2⟩ := h.c3 q; ⟨g, c, p1.ext hx, p2.ext hx⟩
theorem RunI.app (h : RunI w B S0 cb rb mb nb r l9 q t9 last sa sn sc oa on oc da dn dc d now listed W) (L : RunL w B S0 cb rb mb nb da) (hx : Below B W W') (hg : W.grownBy W' (Value.slice da dn dc).ownBlock) (n5 : listed 5 = false) (n7 : listed 7 = false) (n9 : listed 9 = false) (hv : ValL l9) : RunI w B S0 cb rb mb nb r l9 q t9 last sa sn sc oa on oc da dn dc d now (updE listed 5) W' := by
  obtain ⟨l1, l2, l3, l4, l5, l6, l7, l8⟩ := L
  obtain ⟨p1, p2, p3, p4⟩ := h.pre n5
  have hk : ∀ b, S0 ≤ b → b < W.heap.size → W'.heap[b]? = W.heap[b]? := fun b hb hlt => hg.block b hlt (by
    rcases p1.headAt with ⟨h1, _⟩ | ⟨g', h1, _⟩
    · rw [h1]; simp [Value.ownBlock]
    · rw [h1]
      simp only [Value.ownBlock]
      intro e2
      have e3 := Option.some.inj e2
      have := l8 g' h1
      omega)
  refine ⟨Below.trans h.e (Below.mono hx (by omega)), Nat.le_trans h.sz hx.size, ?_, fun _ => (p2.keep hk).ldL hv, (hk mb l6 h.m.lt).trans h.m, (hk nb l7 h.n.lt).trans h.n, fun _ => (h.c1 n7).below hx l1, ?_, ?_, h.rr.below hx l2⟩
  · intro q; simp [updE] at q
  · rw [upd_ne (by decide), n7]; exact fun q => by cases q
  · rw [upd_ne (by decide), n9]; exact fun q => by cases q
theorem RunI.st7 (h : RunI w B S0 cb rb mb nb r l9 q t9 last sa sn sc oa on oc da dn dc d now listed W) (L : RunL w B S0 cb rb mb nb da) (n7 : listed 7 = false) (y5 : listed 5 = true) (n9 : listed 9 = false) : RunI w B S0 cb rb mb nb r l9 q t9 last sa sn sc oa on oc da dn dc d now (updE listed 7) (((W.setCell ⟨cb, 0, none⟩ (.int .i64 r.last)).setCell ⟨cb, 1, none⟩ (.slice r.sa r.sn r.sc)).setCell ⟨cb, 2, none⟩ (.slice r.oa r.on r.oc)) := by
  obtain ⟨l1, l2, l3, l4, l5, l6, l7, l8⟩ := L
  refine ⟨h.e.set3 l4 _ _ _, by have := h.sz; simp [World.setCell]; omega, ?_, ?_, h.m.other3 (by omega) _ _ _, h.n.other3 (by omega) _ _ _, ?_, ?_, ?_, h.rr.other3 l5 _ _ _⟩
  · rw [upd_ne (by decide), y5]; exact fun q => by cases q
  · intro _; exact LdL.setCr3 (h.c1 n7) (h.ld y5)
  · intro q; simp [updE] at q
  · intro _ _; exact (h.c1 n7).set3of6 _ _ _
  · rw [upd_ne (by decide), n9]; exact fun q => by cases q
theorem RunI.st9 (h : RunI w B S0 cb rb mb nb r l9 q t9 last sa sn sc oa on oc da dn dc d now listed W) (L : RunL w B S0 cb rb mb nb da) (g c : Nat) (ho : OwD B W (some ⟨g, 0, none⟩) (dn + 1) c (d ++ [t9])) (y7 : listed 7 = true) (n9 : listed 9 = false) (y5 : listed 5 = true) : RunI w B S0 cb rb mb nb r l9 q t9 last sa sn sc oa on oc da dn dc d now (updE listed 9) (W.setCell ⟨cb, 3, none⟩ (.slice (some ⟨g, 0, none⟩) (dn + 1) c)) := by
  obtain ⟨l1, l2, l3, l4, l5, l6, l7, l8⟩ := L
  refine ⟨h.e.setCell (p := ⟨cb, 3, none⟩) l4 _, by have := h.sz; simp [World.setCell]; omega, ?_, ?_, h.m.otherB (by omega) _ _, h.n.otherB (by omega) _ _, ?_, ?_, ?_, h.rr.otherB l5 _ _⟩
  · rw [upd_ne (by decide), y5]; exact fun q => by cases q
  · intro _; exact LdL.setCr (h.c2 y7 n9) (h.ld y5) _ _
  · rw [upd_ne (by decide), y7]; exact fun q => by cases q
  · intro _ q; simp [updE] at q
  · intro _; exact ⟨g, c, (h.c2 y7 n9).set 3 _, ho.keepHi (keep_set l1 _ _)⟩
end
theorem stE_zero {l : Ld} {t : Tx} {hi : Int} {B : Bool} (h : stE l t hi B = 0) : formB t = true ∧ t.ts = 0 ∧ l.op.length ≠ 2000 ∧ sizeL l + t.wr.length ≤ 4000 ∧ max (l.last + 1) hi ≤ 3000000000000000 := by
  unfold stE at h
  split at h
  · rename_i h1
    split at h
    · omega
    · split at h
      · omega
      · rename_i h2
        split at h
        · omega
        · rename_i h3
          refine ⟨h1.1, h1.2, fun e => h2 (.inl e), ?_, by omega⟩
          rcases Nat.lt_or_ge 4000 (sizeL l + t.wr.length) with h4 | h4
          · exact absurd (.inr h4) h2
          · exact h4
  · omega

theorem res_run14 (W : World) (b : Nat) (v0 v1 v2 v3 v4 v5  : Value) (tmps : Array Value) (hb : tmps[2]?.getD undef = .pointer (some ⟨b, 0, none⟩))  (h : Bk W b 38 #[v0, v1, v2, v3, v4, v5]) :
    (results Try.f7 tmps).run Try.prog W = .ok (.agg #[v0, v1, v2, v3, v4, v5]) W := by
  have c0 := h.c 0 _ rfl
  have c1 := h.c 1 _ rfl
  have c2 := h.c 2 _ rfl
  have c3 := h.c 3 _ rfl
  have c4 := h.c 4 _ rfl
  have c5 := h.c 5 _ rfl
  simp [results, Try.results7, go_sem, hb, c0, c1, c2, c3, c4, c5]

end Go.Proofs.Ytacicanjmleikaa
