/-
  Rows of transactions whose slices too are of the call's own; copies, walked again. Written by wip/gen_rc.py.
-/
import Derived.Test.YtacicanjmleikaaRB
namespace Go.Proofs.Ytacicanjmleikaa
open Go.RowKit Go.Sort Go.Shelf
set_option linter.unusedSimpArgs false
set_option linter.unusedVariables false
set_option maxRecDepth 100000

/-- The slices of a raw transaction lie from 'base' on. -/
def Hi (base : Nat) (r : TxR) : Prop := (∀ b off, r.ra = some ⟨b, off, none⟩ → 0 < r.rn → base ≤ b) ∧ ∀ b off, r.wa = some ⟨b, off, none⟩ → 0 < r.wn → base ≤ b
theorem Hi.mono {base base' : Nat} {r : TxR} (h : Hi base r) (hb : base' ≤ base) : Hi base' r := ⟨fun b o h1 h2 => Nat.le_trans hb (h.1 b o h1 h2), fun b o h1 h2 => Nat.le_trans hb (h.2 b o h1 h2)⟩
theorem hi_row {α : Type} [Cel α] {E : TypeId} {base base' : Nat} {W : World} {a : Option Addr} {n c : Nat} {xs : List α} (h : OwR E base' W a n c xs) (hb : base ≤ base') : ∀ b off, a = some ⟨b, off, none⟩ → 0 < n → base ≤ b := by
  intro b off ha h0
  rcases h.headAt with ⟨_, h1, _⟩ | ⟨g, hg, hg2, _⟩
  · omega
  · rw [ha] at hg
    simp only [Option.some.injEq, Addr.mk.injEq, and_true] at hg
    omega
theorem hi_new {base base' : Nat} {W : World} {id ts : Int} {a1 a2 : Option Addr} {n1 c1 n2 c2 : Nat} {xs : List Sn} {ys : List Wr} (h1 : OwR 77 base' W a1 n1 c1 xs) (h2 : OwR 60 base' W a2 n2 c2 ys) (hb : base ≤ base') : Hi base ⟨id, ts, a1, n1, c1, a2, n2, c2⟩ :=
  ⟨hi_row h1 hb, hi_row h2 hb⟩
def OwD (base : Nat) (W : World) (a : Option Addr) (n c : Nat) (ts : List Tx) : Prop := ∃ rs : List TxR, OwR 26 base W a n c rs ∧ ts.length = n ∧ ∀ i, i < n → TxO a W (nthR rs i) (nthT ts i) ∧ Hi base (nthR rs i)
theorem OwD.nil (base : Nat) (W : World) : OwD base W none 0 0 [] := ⟨[], OwR.nil _ _ _, rfl, fun i hi => absurd hi (Nat.not_lt_zero _)⟩
theorem OwD.ext {base : Nat} {W W' : World} {a : Option Addr} {n c : Nat} {ts : List Tx} (h : OwD base W a n c ts) (he : Ext W W') : OwD base W' a n c ts :=
  let ⟨rs, h1, h2, h3⟩ := h; ⟨rs, h1.ext he, h2, fun i hi => ⟨(h3 i hi).1.ext he, (h3 i hi).2⟩⟩
theorem OwD.owT {base : Nat} {W : World} {a : Option Addr} {n c : Nat} {ts : List Tx} (h : OwD base W a n c ts) : OwT base W a n c ts := let ⟨rs, h1, h2, h3⟩ := h; ⟨rs, h1, h2, fun i hi => (h3 i hi).1⟩
theorem OwD.mono {base base' : Nat} {W : World} {a : Option Addr} {n c : Nat} {ts : List Tx} (h : OwD base W a n c ts) (hb : base' ≤ base) : OwD base' W a n c ts :=
  let ⟨rs, h1, h2, h3⟩ := h; ⟨rs, h1.monoB hb, h2, fun i hi => ⟨(h3 i hi).1, (h3 i hi).2.mono hb⟩⟩
theorem OwD.headAt {base : Nat} {W : World} {a : Option Addr} {n c : Nat} {ts : List Tx} (h : OwD base W a n c ts) : (a = none ∧ n = 0 ∧ c = 0) ∨ ∃ g, a = some ⟨g, 0, none⟩ ∧ base ≤ g ∧ g < W.heap.size := h.owT.headAt
/-- What lies below stays out of it. -/
theorem Rw.keepHi {α : Type} [Cel α] {W W' : World} {base : Nat} {a : Option Addr} {n c : Nat} {xs : List α} (h : Rw W a n c xs) (hb : ∀ b off, a = some ⟨b, off, none⟩ → 0 < n → base ≤ b) (hw : ∀ b, base ≤ b → b < W.heap.size → W'.heap[b]? = W.heap[b]?) : Rw W' a n c xs :=
  h.below fun b off ha h0 => hw b (hb b off ha h0) (h.lt ha h0)
theorem OwR.keepHi {α : Type} [Cel α] {E : TypeId} {W W' : World} {base : Nat} {a : Option Addr} {n c : Nat} {xs : List α} (h : OwR E base W a n c xs) (hw : ∀ b, base ≤ b → b < W.heap.size → W'.heap[b]? = W.heap[b]?) : OwR E base W' a n c xs := by
  obtain ⟨h0, h1, h2⟩ := h
  refine ⟨h0, h1, ?_⟩
  rcases h2 with h2 | ⟨g, cap, cur, hv, hg, hh, r⟩
  · exact .inl h2
  · exact .inr ⟨g, cap, cur, hv, hg, (hw g hg (Array.getElem?_eq_some_iff.1 hh).1).trans hh, r⟩
theorem OwD.keepHi {base : Nat} {W W' : World} {a : Option Addr} {n c : Nat} {ts : List Tx} (h : OwD base W a n c ts) (hw : ∀ b, base ≤ b → b < W.heap.size → W'.heap[b]? = W.heap[b]?) : OwD base W' a n c ts := by
  obtain ⟨rs, h1, h2, h3⟩ := h
  refine ⟨rs, h1.keepHi hw, h2, fun i hi => ?_⟩
  obtain ⟨⟨⟨q1, q2, q3, q4⟩, q5, q6, q7⟩, q8⟩ := h3 i hi
  exact ⟨⟨⟨q1, q2, q3.keepHi q8.1 hw, q4.keepHi q8.2 hw⟩, q5, q6, q7⟩, q8⟩
theorem keep_set {W : World} {base b : Nat} (hb : b < base) (i : Nat) (v : Value) : ∀ k, base ≤ k → k < W.heap.size → (W.setCell ⟨b, i, none⟩ v).heap[k]? = W.heap[k]? := fun k hk _ => heap_setCell_other W ⟨b, i, none⟩ k v (by simp only; omega)
theorem keep_set4 {W : World} {base b : Nat} (hb : b < base) (v0 v1 v2 v3 : Value) : ∀ k, base ≤ k → k < W.heap.size → ((((W.setCell ⟨b, 0, none⟩ v0).setCell ⟨b, 1, none⟩ v1).setCell ⟨b, 2, none⟩ v2).setCell ⟨b, 3, none⟩ v3).heap[k]? = W.heap[k]? := fun k hk _ =>
  ((heap_setCell_other _ ⟨b, 3, none⟩ k v3 (by simp only; omega)).trans (heap_setCell_other _ ⟨b, 2, none⟩ k v2 (by simp only; omega))).trans ((heap_setCell_other _ ⟨b, 1, none⟩ k v1 (by simp only; omega)).trans (heap_setCell_other _ ⟨b, 0, none⟩ k v0 (by simp only; omega)))
theorem keep_set3 {W : World} {base b : Nat} (hb : b < base) (v0 v1 v2 : Value) : ∀ k, base ≤ k → k < W.heap.size → (((W.setCell ⟨b, 0, none⟩ v0).setCell ⟨b, 1, none⟩ v1).setCell ⟨b, 2, none⟩ v2).heap[k]? = W.heap[k]? := fun k hk _ =>
  (heap_setCell_other _ ⟨b, 2, none⟩ k v2 (by simp only; omega)).trans ((heap_setCell_other _ ⟨b, 1, none⟩ k v1 (by simp only; omega)).trans (heap_setCell_other _ ⟨b, 0, none⟩ k v0 (by simp only; omega)))

/-- 'append(s, x)': one transaction, that lies in a block, to a row of the call's own; what else is known stays. -/
theorem appDb {P : Program} {T : TypeId} {z : Value} {by_ : Nat} (hE : ElS P T 26 z 4 by_) {ops : Array Oper} {rest : List Oper} {o : Oper} {a : Act} {Q : Exit → Act → World → Prop} (hgd : o.guard = none) (s x : Operand)
    (ho : o.op = .call { callee := .builtin .append, args := #[s, x], argTypes := #[T, T] })
    (w : World) (base : Nat) (sa : Option Addr) (n c : Nat) (ts : List Tx) (hs : a.eval s = .slice sa n c) (hown : OwD base w sa n c ts)
    (b tc : Nat) (r : TxR) (u : Tx) (hx : a.eval x = .slice (some ⟨b, 0, none⟩) 1 tc) (hn : w.rangeAt b 0 (Cel.enc r)) (hu : TxO sa w r u) (hh : Hi base r)
    (hbase : base ≤ w.heap.size) (h63 : n + 1 ≤ maxLen) (hbytes : (n + 1) * by_ ≤ 140737488355328)
    (h : ∀ g cap w', OwD base w' (some ⟨g, 0, none⟩) (n + 1) cap (ts ++ [u]) → Below base w w' → w.grownBy w' (Value.slice sa n c).ownBlock → wpList P ops Q rest (a.put o.dst (.slice (some ⟨g, 0, none⟩) (n + 1) cap)) w') :
    wpList P ops Q (o :: rest) a w := by
  obtain ⟨rs, hrow, hlen, hvs⟩ := hown
  refine appC hE hgd s x ho w base sa n c _ hs hrow.2 b 0 1 tc (Cel.enc r) hx (by rw [Cel.len]; rfl) hn (fun v hv => Cel.one r v hv) (by omega) hbase h63 hbytes ?_
  intro g cap w' h2 h3 hg h4
  have hrl := hrow.1
  refine h g cap w' ⟨rs ++ [r], ⟨by rw [List.length_append, hrl]; rfl, by rw [List.flatMap_append, show [r].flatMap Cel.enc = Cel.enc r from by simp]; exact h2⟩, by rw [List.length_append, hlen]; rfl, fun i hi => ?_⟩ h3 hg
  have key : ∀ {α : Type} [Cel α] (a' : Option Addr) (n' c' : Nat) (zs : List α), Rw w a' n' c' zs → Apt sa a' n' → Rw w' a' n' c' zs ∧ Apt (some ⟨g, 0, none⟩) a' n' := by
    intro α _ a' n' c' zs hz hzne
    have hrowne : ∀ b off, a' = some ⟨b, off, none⟩ → 0 < n' → some b ≠ (Value.slice sa n c).ownBlock := by
      intro b off ha hn e
      rcases hrow.2.2 with ⟨hv, _⟩ | ⟨g', cap', cur, hv, _⟩
      · simp only [Value.slice.injEq] at hv; obtain ⟨rfl, _, _⟩ := hv; cases e
      · simp only [Value.slice.injEq] at hv; obtain ⟨rfl, _, _⟩ := hv
        simp only [Value.ownBlock, Option.some.injEq] at e
        subst e
        exact hzne b off ha hn rfl
    refine ⟨hz.below (fun b off ha hn => hg.block b (hz.lt ha hn) (hrowne b off ha hn)), fun b off ha hn e => ?_⟩
    simp only [Option.some.injEq, Addr.mk.injEq, and_true] at e
    subst e
    rcases h4 with h4 | h4
    · exact hrowne g off ha hn h4.symm
    · have := hz.lt ha hn
      omega
  have one : ∀ (r : TxR) (t : Tx), TxO sa w r t → TxO (some ⟨g, 0, none⟩) w' r t := fun r t hr => by
    obtain ⟨⟨q1, q2, q3, q4⟩, q5, q6, q7⟩ := hr
    obtain ⟨k1, k2⟩ := key _ _ _ _ q3 q6
    obtain ⟨k3, k4⟩ := key _ _ _ _ q4 q7
    exact ⟨⟨q1, q2, k1, k3⟩, q5, k2, k4⟩
  rcases Nat.lt_or_ge i n with hin' | hin'
  · rw [nthR_app_left (by omega), nthT_left (by omega)]
    exact ⟨one _ _ (hvs i hin').1, (hvs i hin').2⟩
  · obtain rfl : i = n := by omega
    rw [nthR_app_right (by omega), nthT_right hlen (Nat.le_refl _), hrl, Nat.sub_self]
    exact ⟨one _ _ hu, hh⟩
/-- The same, where the block has just been laid. -/
theorem appD1 {P : Program} {T : TypeId} {z : Value} {by_ : Nat} (hE : ElS P T 26 z 4 by_) {ops : Array Oper} {rest : List Oper} {o : Oper} {a : Act} {Q : Exit → Act → World → Prop} (hgd : o.guard = none) (s x : Operand)
    (ho : o.op = .call { callee := .builtin .append, args := #[s, x], argTypes := #[T, T] })
    (w : World) (base : Nat) (sa : Option Addr) (n c : Nat) (ts : List Tx) (r : TxR) (u : Tx) (cs : Array Value) (hcs : cs.toList = Cel.enc r) (hs : a.eval s = .slice sa n c) (hown : OwD base w sa n c ts)
    (hu : TxO sa w r u) (hh : Hi base r)
    (hx : a.eval x = .slice (some ⟨w.heap.size, 0, none⟩) 1 1) (hbase : base ≤ w.heap.size) (h63 : n + 1 ≤ maxLen) (hbytes : (n + 1) * by_ ≤ 140737488355328)
    (h : ∀ g cap w', OwD base w' (some ⟨g, 0, none⟩) (n + 1) cap (ts ++ [u]) → Below base w w' → (w.alloc (.cells cs 26)).grownBy w' (Value.slice sa n c).ownBlock → wpList P ops Q rest (a.put o.dst (.slice (some ⟨g, 0, none⟩) (n + 1) cap)) w') :
    wpList P ops Q (o :: rest) a (w.alloc (.cells cs 26)) := by
  have hE0 : Ext w (w.alloc (.cells cs 26)) := (Ext.refl w).alloc _
  have hr : (w.alloc (.cells cs 26)).rangeAt w.heap.size 0 (Cel.enc r) := by
    intro j v hv
    rw [cell_of_row (w.alloc (.cells cs 26)) w.heap.size (0 + j) cs 26 (0, 0) (World.alloc_heap_new w _), ← Array.getElem?_toList, hcs, Nat.zero_add]
    exact hv
  refine appDb hE hgd s x ho _ base sa n c ts hs (hown.ext hE0) w.heap.size 1 r u hx hr (hu.ext hE0) hh (by simp; omega) h63 hbytes ?_
  intro g cap w' h2 h3 h4
  exact h g cap w' h2 (Below.trans ((Below.refl base w).alloc hbase _) h3) h4

set_option maxHeartbeats 4000000 in
theorem copiesD_any (a : Option Addr) (n c : Nat) (ts : List Tx) (w : World) (h : Txs w a n c ts) (hn : n ≤ 1000000) (hf : ∀ t ∈ ts, t.rd.length ≤ 1000000 ∧ t.wr.length ≤ 1000000) :
    Calls Try.prog 23 #[.slice a n c] w fun e w' => ∃ a' c', e = .returned (.slice a' n c') ∧ OwD w.heap.size w' a' n c' ts ∧ Ext w w' := by
  have HLO := Lib.hid h.hlen
  have HF := Lib.hid hf
  clear hf
  have bd := h.bd
  go_enter Try.func23, Try.ntmps23
  go_wp2_with fail
  go_loopw [3, 8] (fun o i wr => ∃ (k : Nat) (a' : Option Addr) (c' : Nat), k ≤ n ∧ o = .slice a' k c' ∧ i = .int .i64 k ∧ OwD w.heap.size wr a' k c' (ts.take k) ∧ Ext w wr) (fun _ i _ => n - (intOf i).toNat)
  case atStart => exact ⟨0, none, 0, by omega, rfl, rfl, OwD.nil _ _, Ext.refl _⟩
  case round =>
    obtain ⟨k, a', c', hk, rfl, rfl, ho, hx⟩ := hrel
    by_cases hlt : k < n
    · obtain ⟨x1, o1, rfl, hc1⟩ := h.at (by omega)
      obtain ⟨r, hr0, htx, hok⟩ := hc1 k hlt
      have hr := rangeAt_ext hr0 hx
      have HT := Lib.hid (take_nthT_succ (ts := ts) (k := k) (by rw [HLO.out]; exact hlt))
      have HB := Lib.hid (HF.out (nthT ts k) (nthT_mem (by rw [HLO.out]; exact hlt)))
      have HTX := Lib.hid htx
      have HOK := Lib.hid hok
      have hrn : r.rn ≤ 1000000 := by have := HB.out.1; rw [htx.rd.hlen] at this; exact this
      have hwn : r.wn ≤ 1000000 := by have := HB.out.2; rw [htx.wr.hlen] at this; exact this
      have HCP := Lib.hid (fun (V : World) (hv : Ext w V) => copied_any r (nthT ts k) V (htx.ext hv) hrn hwn)
      clear hr0 hc1 htx hok
      generalize nthT ts k = t at *
      obtain ⟨ri, rt, ra, rn, rc, wa, wn, wc⟩ := r
      obtain ⟨d0, d1, d2, d3⟩ := cells_tr hr
      unfold valT at HCP
      simp only at d0 d1 d2 d3 HCP hrn hwn
      clear hr
      have hb := Bk.new wr 26 #[.int .i64 ri, .int .i64 rt, .slice ra rn rc, .slice wa wn wc]
      have hE2 : Ext wr (wr.alloc (.cells #[.int .i64 ri, .int .i64 rt, .slice ra rn rc, .slice wa wn wc] 26)) := (Ext.refl wr).alloc _
      go_upto_region 5 with fail
      replace ho := ho.ext hE2
      replace hx := hx.trans hE2
      clear hE2 d0 d1 d2 d3
      generalize wr.alloc (.cells #[.int .i64 ri, .int .i64 rt, .slice ra rn rc, .slice wa wn wc] 26) = V2 at *
      have c0 := hb.c 0 _ rfl
      have c1 := hb.c 1 _ rfl
      have c2 := hb.c 2 _ rfl
      have c3 := hb.c 3 _ rfl
      go_wp2_with (go_at_call 32; refine (HCP.out V2 hx).mono ?_; rintro e V3 ⟨a1, e1, a2, e2, rfl, p1, p2, hx3⟩; refine hold ?_)
      refine held ?_
      have HV2 : Hid (w.heap.size ≤ V2.heap.size) := Lib.hid hx.sz
      have hsa : ∀ g o, a' = some ⟨g, o, none⟩ → g < V2.heap.size := fun g o e => by
        rcases ho.headAt with ⟨h1, _⟩ | ⟨g', h1, _, h2⟩
        · rw [h1] at e; cases e
        · rw [h1] at e; simp only [Option.some.injEq, Addr.mk.injEq, and_true] at e; omega
      have hto := Lib.hid (copied_o HTX.out HOK.out hrn hwn p1 p2 hsa)
      have hhi := Lib.hid (hi_new (id := ri) (ts := rt) p1 p2 HV2.out)
      replace ho := ho.ext hx3
      replace hx := hx.trans hx3
      clear hx3 c0 c1 c2 c3 hb p1 p2 hsa
      have hbz := hx.sz
      go_wp2_with (at_builtin; refine appD1 el_tx rfl _ _ rfl V3 w.heap.size _ _ _ _ (⟨ri, rt, a1, rn, e1, a2, wn, e2⟩ : TxR) t _ rfl rfl ho hto.out hhi.out rfl hbz (by unfold maxLen; omega) (by omega) ?_; intro g3 c3 w4 ho3 hB3 hG3; refine hold ?_)
      refine held ?_
      go_wp2_with fail
      refine ⟨⟨k + 1, some ⟨g3, 0, none⟩, c3, by omega, rfl, by go_num, ?_, Below.trans hx hB3⟩, by simp only [intOf]; omega⟩
      rw [HT.out]; exact ho3
    · obtain rfl : n = k := by omega
      go_wp2_with fail
      go_ret
      exact ⟨a', c', rfl, by rw [List.take_of_length_le (by rw [HLO.out]; exact Nat.le_refl _)] at ho; exact ho, hx⟩
end Go.Proofs.Ytacicanjmleikaa
