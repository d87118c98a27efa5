/-
  A reply put in its place, and the search for its place: the package, walked. Laws for 'copy' and for the store of a record. Written by wip/gen_ig.py.
-/
import Derived.Test.YtdmfdimhjemngaaGreatDoorIF
import Derived.Laws.CopyOwn
import Derived.OwnWalk
namespace Go.Proofs.YtdmfdimhjemngaaGreatDoor
open Go.RowKit Go.Sort Go.Shelf
set_option linter.unusedSimpArgs false
set_option linter.unusedVariables false
set_option maxRecDepth 100000


section
variable {α : Type} [Cel α]
theorem OwR.ofHeap {E : TypeId} {base : Nat} {w : World} {g n : Nat} {cur : Array Value} {xs : List α} (hl : xs.length = n) (hg : w.heap[g]? = some (.cells cur E (0, 0))) (hb : base ≤ g) (hc : cur.toList = xs.flatMap Cel.enc) (hm : n ≤ maxLen) : OwR E base w (some ⟨g, 0, none⟩) n n xs := by
  have hf := flat_len xs
  rw [hl] at hf
  have hs : cur.size = n * Cel.sz α := by rw [← Array.length_toList, hc, hf]
  exact ⟨hl, hf, .inr ⟨g, n, cur, rfl, hb, hg, Nat.le_refl _, hm, hs, by rw [List.take_of_length_le (by rw [Array.length_toList]; omega), hc]⟩⟩

/-- 'copy(d, s)' of records, d in a row that is known whole, s no longer than d. -/
theorem wpList_copyR {P : Program} {w : World} {ops : Array Oper} {rest : List Oper} {o : Oper} {a : Act} {Q : Exit → Act → World → Prop} (hgd : o.guard = none) (d s : Operand) (dT sT : TypeId)
    (ho : o.op = .call { callee := .builtin .copy, args := #[d, s], argTypes := #[dT, sT] }) (elem : TypeId) (hu : P.underlying dT = some (.slice elem)) (hsz : (P.info? elem).map (·.size) = some (Cel.sz α))
    (dp sp : Option Addr) (dLen dCap sLen sCap : Nat) (hd : a.eval d = .slice dp dLen dCap) (hs : a.eval s = .slice sp sLen sCap) (ys : List α) (hr : Rw w sp sLen sCap ys)
    (g off : Nat) (cur : List Value) (t : TypeId) (hg : w.heap[g]? = some (.cells cur.toArray t (0, 0))) (hle : sLen ≤ dLen) (hdp : 0 < sLen → dp = some ⟨g, off, none⟩) (hfit : off + sLen * Cel.sz α ≤ cur.length)
    (h : wpList P ops Q rest (a.put o.dst (goInt sLen)) (w.setRow g (splice cur off (ys.flatMap Cel.enc)).toArray)) : wpList P ops Q (o :: rest) a w := by
  refine wpList_plain hgd fun K hK => ?_
  have hmin : Nat.min sLen dLen = sLen := Nat.min_eq_left hle
  have hfl := flat_len ys
  rw [hr.hlen] at hfl
  have hrun : (Builtin.copy_ #[dT, sT] o.type #[.slice dp dLen dCap, .slice sp sLen sCap]).run P w = .ok (goInt sLen) (w.setRow g (splice cur off (ys.flatMap Cel.enc)).toArray) := by
    cases hq : P.info? elem with
    | none => simp [hq] at hsz
    | some i =>
      have hi : i.size = Cel.sz α := by simpa [hq] using hsz
      rcases Nat.eq_zero_or_pos sLen with h0 | h0
      · subst h0
        obtain rfl : ys = [] := List.eq_nil_of_length_eq_zero hr.hlen
        have hself : w.setRow g (splice cur off (([] : List α).flatMap Cel.enc)).toArray = w := by
          have : splice cur off (([] : List α).flatMap Cel.enc) = cur := by simp [splice]
          rw [this]
          exact setRow_self w g _ t (0, 0) hg
        rw [hself]
        have hl : ∀ (x : Addr), (loadCells x 0).run P w = .ok #[] w := fun x => by simpa using run_loadCells_list (P := P) w x [] (by simp)
        have hmin0 : Nat.min 0 dLen = 0 := hmin
        cases dp <;> cases sp <;> simp [Builtin.copy_, run_underlying hu, Builtin.lenOf, Builtin.firstCells, sizeOf, typeInfo, hq, hi, hmin0, storeCells, hl]
      · obtain ⟨b, o2, rfl, _⟩ := hr.at h0
        obtain rfl := hdp h0
        have hl := run_loadCells_list (P := P) w ⟨b, o2, none⟩ (ys.flatMap Cel.enc) (fun j v hv => by rw [Addr.add_mid]; exact hr.flat j v hv)
        rw [hfl] at hl
        have hst := run_storeCells_at P g off t (ys.flatMap Cel.enc) 0 cur.toArray w hg (by simp only [Nat.add_zero, List.size_toArray]; rw [hfl]; exact hfit) (flat_one ys)
        simp only [Nat.add_zero] at hst
        have e : ∀ n, n * i.size = n * Cel.sz α := fun n => by rw [hi]
        simp [Builtin.copy_, run_underlying hu, Builtin.lenOf, Builtin.firstCells, sizeOf, typeInfo, hq, hi, hmin, hl, hst, splice]
  unfold Oper.wp
  simp [execOp, ho, resolve, invoke, builtin, hd, hs, hrun, Result.andThen]
  exact hK _ _ h

/-- A record stored into a row that is known whole. -/
theorem wpList_storeR {P : Program} {w : World} {ops : Array Oper} {rest : List Oper} {o : Oper} {a : Act} {Q : Exit → Act → World → Prop} (hgd : o.guard = none) (p x : Operand) (T : TypeId) (ho : o.op = .store T p x) (hsz : (P.info? T).map (·.size) = some (Cel.sz α))
    (g off : Nat) (y : α) (cs : Array Value) (hcs : cs.toList = Cel.enc y) (hp : a.eval p = .pointer (some ⟨g, off, none⟩)) (hx : a.eval x = .agg cs)
    (cur : List Value) (t : TypeId) (hg : w.heap[g]? = some (.cells cur.toArray t (0, 0))) (hfit : off + Cel.sz α ≤ cur.length)
    (h : wpList P ops Q rest (a.put o.dst undef) (w.setRow g (splice cur off (Cel.enc y)).toArray)) : wpList P ops Q (o :: rest) a w := by
  refine wpList_plain hgd fun K hK => ?_
  have hcz : cs.size = Cel.sz α := by rw [← Array.length_toList, hcs, Cel.len]
  have hst := run_storeCells_at P g off t (Cel.enc y) 0 cur.toArray w hg (by simp only [Nat.add_zero, List.size_toArray]; rw [Cel.len]; exact hfit) (Cel.one y)
  simp only [Nat.add_zero] at hst
  cases hq : P.info? T with
  | none => simp [hq] at hsz
  | some i =>
    have hi : i.size = Cel.sz α := by simpa [hq] using hsz
    have hrun : (Instr.storeAt T (.pointer (some ⟨g, off, none⟩)) (.agg cs)).run P w = .ok () (w.setRow g (splice cur off (Cel.enc y)).toArray) := by
      simp [Instr.storeAt, storeVar, Instr.sureAddr, sizeOf, typeInfo, hq, hi, Value.cells, hcz, hcs, hst, splice, Result.andThen]
    unfold Oper.wp
    simp [execOp, ho, hp, hx, hrun, Result.andThen]
    exact hK _ _ h
end
theorem inf_rp : (Tryz.prog.info? 60).map (·.size) = some (Cel.sz Rp) := by kernel_rfl

theorem splice3 {α : Type} (L A B C : List α) (h : L.length = A.length + (B.length + C.length)) : splice (splice (splice L 0 A) A.length B) (A.length + B.length) C = A ++ (B ++ C) := by
  have e1 : splice L 0 A = A ++ L.drop A.length := by simp [splice]
  have e2 : splice (A ++ L.drop A.length) A.length B = (A ++ B) ++ L.drop (A.length + B.length) := by simp [splice, List.drop_append, List.drop_drop, Nat.add_sub_cancel_left, List.drop_eq_nil_of_le]
  have e3 : splice ((A ++ B) ++ L.drop (A.length + B.length)) (A.length + B.length) C = A ++ (B ++ C) := by
    have : (A ++ B).length = A.length + B.length := List.length_append
    rw [← this]
    have hd : (L.drop (A ++ B).length).drop C.length = [] := List.drop_eq_nil_of_le (by rw [List.length_drop, this]; omega)
    simp only [splice, List.take_left]
    rw [List.drop_append, List.drop_eq_nil_of_le (by omega), Nat.add_sub_cancel_left, hd]
    simp
  rw [e1, e2, e3]
theorem splice_len {α : Type} (L : List α) (o : Nat) (C : List α) (h : o + C.length ≤ L.length) : (splice L o C).length = L.length := length_splice L o C h

theorem Rw.fromIf {w : World} {ab ao n c : Nat} {xs : List Rp} (h : Rw w (some ⟨ab, ao, none⟩) n c xs) {k : Nat} (hk : k ≤ n) : Rw w (if c = k then some ⟨ab, ao, none⟩ else some ⟨ab, ao + k * 10, none⟩) (n - k) (c - k) (xs.drop k) := by
  have hle := h.le
  have hmx := h.max
  have hlim := h.lim
  refine ⟨by rw [List.length_drop, h.hlen], by omega, by omega, by omega, fun i hi => ?_, fun y hy => h.wf y (List.mem_of_mem_drop hy)⟩
  rw [if_neg (by omega)]
  obtain ⟨b', off', he, hc⟩ := h.cells (k + i) (by omega)
  simp at he
  obtain ⟨rfl, rfl⟩ := he
  refine ⟨ab, ao + k * 10, rfl, ?_⟩
  rw [nthR_drop]
  rw [sz_rp] at hc ⊢
  rw [show ao + k * 10 + i * 10 = ao + (k + i) * 10 by omega]
  exact hc

set_option maxHeartbeats 4000000 in
theorem iinsert_some (ab ao n c : Nat) (xs : List Rp) (k : Nat) (hk : k ≤ n) (x : Rp) (hx : x.Ok) (w : World) (h1 : Rw w (some ⟨ab, ao, none⟩) n c xs) (hn : n ≤ 1000) :
    Calls Tryz.prog 37 #[.slice (some ⟨ab, ao, none⟩) n c, .int .i64 (k : Int), .agg #[.int .i64 x.a, .int .i64 x.h, .int .i64 x.r, .int .u64 x.n, .int .i64 x.lo, .int .i64 x.hi, .int .i64 x.k, .int .i64 x.t, .int .i64 x.c, .int .i64 x.s]] w fun e w' => ∃ g, e = .returned (.slice (some ⟨g, 0, none⟩) (n + 1) (n + 1)) ∧ OwR 60 w.heap.size w' (some ⟨g, 0, none⟩) (n + 1) (n + 1) (xs.take k ++ x :: xs.drop k) ∧ Ext w w' := by
  have hr0 := h1
  have HL := Lib.hid h1.hlen
  have bd := hr0.bd
  obtain ⟨hT, ⟨i0, hi, hz0, hz1, hz2⟩⟩ : True ∧ ∃ i, Tryz.prog.info? 60 = some i ∧ i.zero = some (.agg #[.int .i64 0, .int .i64 0, .int .i64 0, .int .u64 0, .int .i64 0, .int .i64 0, .int .i64 0, .int .i64 0, .int .i64 0, .int .i64 0]) ∧ i.size = 10 ∧ i.bytes = 80 := ⟨trivial, info_parts el_rp.2.1⟩
  have hQ := Bk.new w 60 #[.int .i64 x.a, .int .i64 x.h, .int .i64 x.r, .int .u64 x.n, .int .i64 x.lo, .int .i64 x.hi, .int .i64 x.k, .int .i64 x.t, .int .i64 x.c, .int .i64 x.s]
  have hE : Ext w (w.alloc (.cells #[.int .i64 x.a, .int .i64 x.h, .int .i64 x.r, .int .u64 x.n, .int .i64 x.lo, .int .i64 x.hi, .int .i64 x.k, .int .i64 x.t, .int .i64 x.c, .int .i64 x.s] 60)) := (Ext.refl w).alloc _
  go_enter Tryz.func37, Tryz.ntmps37
  go_upto_region 1 with fail
  generalize hV : w.alloc (.cells #[.int .i64 x.a, .int .i64 x.h, .int .i64 x.r, .int .u64 x.n, .int .i64 x.lo, .int .i64 x.hi, .int .i64 x.k, .int .i64 x.t, .int .i64 x.c, .int .i64 x.s] 60) = V at *
  generalize w.heap.size = qb at hQ ⊢
  have hEV := hE
  clear hV
  have hb80 : i0.bytes * (n + 1) ≤ 281474976710656 := by rw [hz2]; omega
  go_wp2_with (at_make; refine wpList_make_full _ rfl _ _ 27 rfl V.heap.size 60 i0 _ 10 Tryz.underlying27 hi hz0 hz1 .i64 .i64 _ _ (n + 1) rfl rfl (by push_cast; omega) (by push_cast; omega) hb80 (by unfold maxLen; omega) (Nat.le_refl _) ?_; intro w1 ho1 hg1; refine hold ?_)
  refine held ?_
  obtain ⟨cur0, hcur0, hsz0⟩ : ∃ cur0 : Array Value, w1.heap[V.heap.size]? = some (.cells cur0 60 (0, 0)) ∧ cur0.size = (n + 1) * 10 := by
    rcases ho1.2 with ⟨hv, _⟩ | ⟨g', cap, cur, hv, _, hb, _, _, hs, _⟩
    · cases hv
    · simp only [Value.slice.injEq, Option.some.injEq, Addr.mk.injEq, and_true, true_and] at hv
      obtain ⟨rfl, rfl⟩ := hv
      exact ⟨cur, hb, hs⟩
  have hx1 : Ext V w1 := (Below.refl V.heap.size V).grown hg1 (Nat.le_refl _) (fun j hj => by cases hj)
  have hgw : w.heap.size ≤ V.heap.size := hE.sz
  have hg1s := (Array.getElem?_eq_some_iff.1 hcur0).1
  have hQ1 := hQ.ext hx1
  have hqg : qb < V.heap.size := hQ.lt
  have hEg : Below V.heap.size V w1 := hx1
  replace hE := hE.trans hx1
  clear ho1 hg1 hx1 hb80 hQ
  generalize V.heap.size = g at *
  have hc0 : w1.heap[g]? = some (.cells cur0.toList.toArray 60 (0, 0)) := by simpa using hcur0
  have hl0 : cur0.toList.length = (n + 1) * 10 := by simpa using hsz0
  clear hcur0 hsz0
  generalize cur0.toList = L0 at *
  have hr1 := hr0.ext hE
  have hfl := fun (ys : List Rp) => flat_len ys
  have htk : ((xs.take k).flatMap Cel.enc).length = k * 10 := by rw [hfl, List.length_take, HL.out, sz_rp]; congr 1; omega
  have hdk : ((xs.drop k).flatMap Cel.enc).length = (n - k) * 10 := by rw [hfl, List.length_drop, HL.out, sz_rp]
  have hxl : (Cel.enc x).length = 10 := Cel.len x
  have HFIN : Hid (splice (splice (splice L0 0 ((xs.take k).flatMap Cel.enc)) (k * 10) (Cel.enc x)) (k * 10 + 10) ((xs.drop k).flatMap Cel.enc) = (xs.take k ++ x :: xs.drop k).flatMap Cel.enc) := Lib.hid (by
    have := splice3 L0 ((xs.take k).flatMap Cel.enc) (Cel.enc x) ((xs.drop k).flatMap Cel.enc) (by rw [hl0, htk, hdk, hxl]; omega)
    rw [htk, hxl] at this
    rw [this, List.flatMap_append, List.flatMap_cons])
  obtain ⟨L1, hL1⟩ : ∃ L1, splice L0 0 ((xs.take k).flatMap Cel.enc) = L1 := ⟨_, rfl⟩
  obtain ⟨L2, hL2⟩ : ∃ L2, splice L1 (k * 10) (Cel.enc x) = L2 := ⟨_, rfl⟩
  have h1l : L1.length = (n + 1) * 10 := by rw [← hL1, splice_len _ _ _ (by rw [htk, hl0]; omega), hl0]
  have h2l : L2.length = (n + 1) * 10 := by rw [← hL2, splice_len _ _ _ (by rw [hxl, h1l]; omega), h1l]
  rw [hL1, hL2] at HFIN
  have H1 := Lib.hid hL1
  have H2 := Lib.hid hL2
  clear hL1 hL2 htk hdk hxl hfl
  have hkn : (k : Int) ≤ n := by omega
  have hlk : ¬ ((k : Int) < 0) := by omega
  have hkc : k ≤ c := by omega
  go_upto_region 2 with fail
  go_wp2_with (refine wpList_copyR (α := Rp) rfl _ _ 27 27 rfl 60 Tryz.underlying27 inf_rp _ _ _ _ _ _ rfl rfl (xs.take k) (hr1.take hk) g 0 L0 60 hc0 (by omega) (fun _ => rfl) (by rw [sz_rp, hl0]; omega) ?_; refine hold ?_)
  refine held ?_
  have hc1 : (w1.setRow g (splice L0 0 ((xs.take k).flatMap Cel.enc)).toArray).heap[g]? = some (.cells (splice L0 0 ((xs.take k).flatMap Cel.enc)).toArray 60 (0, 0)) := setRow_heap w1 g _ _ _ _ hc0
  have hb1 : Below g w1 (w1.setRow g (splice L0 0 ((xs.take k).flatMap Cel.enc)).toArray) := below_setRow (Below.refl _ _) (Nat.le_refl _) _
  rw [H1.out] at hc1 hb1 ⊢
  generalize w1.setRow g L1.toArray = w2 at *
  have hQ2 : Bk w2 qb 60 #[.int .i64 x.a, .int .i64 x.h, .int .i64 x.r, .int .u64 x.n, .int .i64 x.lo, .int .i64 x.hi, .int .i64 x.k, .int .i64 x.t, .int .i64 x.c, .int .i64 x.s] := (hb1.block qb hqg).trans hQ1
  have r0 := hQ2.c 0 _ rfl
  have r1 := hQ2.c 1 _ rfl
  have r2 := hQ2.c 2 _ rfl
  have r3 := hQ2.c 3 _ rfl
  have r4 := hQ2.c 4 _ rfl
  have r5 := hQ2.c 5 _ rfl
  have r6 := hQ2.c 6 _ rfl
  have r7 := hQ2.c 7 _ rfl
  have r8 := hQ2.c 8 _ rfl
  have r9 := hQ2.c 9 _ rfl
  have hkn1 : (k : Int) < (n : Int) + 1 := by omega
  go_upto_region 3 with fail
  go_wp2_with (refine wpList_storeR (α := Rp) rfl _ _ 60 rfl inf_rp g (k * 10) x _ rfl rfl rfl L1 60 hc1 (by rw [sz_rp, h1l]; omega) ?_; refine hold ?_)
  refine held ?_
  clear r0 r1 r2 r3 r4 r5 r6 r7 r8 r9
  have hc2 : (w2.setRow g (splice L1 (k * 10) (Cel.enc x)).toArray).heap[g]? = some (.cells (splice L1 (k * 10) (Cel.enc x)).toArray 60 (0, 0)) := setRow_heap w2 g _ _ _ _ hc1
  have hb2 : Below g w2 (w2.setRow g (splice L1 (k * 10) (Cel.enc x)).toArray) := below_setRow (Below.refl _ _) (Nat.le_refl _) _
  rw [H2.out] at hc2 hb2 ⊢
  generalize w2.setRow g L2.toArray = w3 at *
  have hb3 : Below g V w3 := Below.trans hEg (Below.trans hb1 hb2)
  go_upto_region 4 with fail
  refine region_tail 7 (by kernel_rfl) (by kernel_rfl) ?_
  simp only [List.take_succ_cons, List.take_zero, List.drop_succ_cons, List.drop_zero]
  repeat (go_big_quiet_step (fail))
  refine wpQuiet_nil ?_
  intro w4 hx4
  have hc4 : w4.heap[g]? = some (.cells L2.toArray 60 (0, 0)) := (hx4.block g (Array.getElem?_eq_some_iff.1 hc2).1).trans hc2
  have hb4 : Below g V w4 := Below.trans hb3 (Below.mono hx4 (by have := (Array.getElem?_eq_some_iff.1 hc2).1; omega))
  have hEx4 : Ext w w4 := Below.trans hEV (Below.mono hb4 hgw)
  have hA1 : 0 < n - k → (if n = k then (some ⟨g, 0, none⟩ : Option Addr) else some ⟨g, (k + 1) * 10, none⟩) = some ⟨g, k * 10 + 10, none⟩ := fun h => by rw [if_neg (by omega), show (k + 1) * 10 = k * 10 + 10 by omega]
  have hR4 := (hr0.ext hEx4).fromIf hk
  generalize (if n = k then (some ⟨g, 0, none⟩ : Option Addr) else some ⟨g, (k + 1) * 10, none⟩) = A1 at hA1 ⊢
  generalize (if c = k then (some ⟨ab, ao, none⟩ : Option Addr) else some ⟨ab, ao + k * 10, none⟩) = A2 at hR4 ⊢
  have HA1 := Lib.hid hA1
  clear hA1
  go_wp2_with (refine wpList_copyR (α := Rp) rfl _ _ 27 27 rfl 60 Tryz.underlying27 inf_rp _ _ _ _ _ _ rfl rfl (xs.drop k) hR4 g (k * 10 + 10) L2 60 hc4 (by omega) HA1.out (by rw [sz_rp, h2l]; omega) ?_; refine hold ?_)
  refine held ?_
  have hc5 : (w4.setRow g (splice L2 (k * 10 + 10) ((xs.drop k).flatMap Cel.enc)).toArray).heap[g]? = some (.cells (splice L2 (k * 10 + 10) ((xs.drop k).flatMap Cel.enc)).toArray 60 (0, 0)) := setRow_heap w4 g _ _ _ _ hc4
  have hb5 : Below g w4 (w4.setRow g (splice L2 (k * 10 + 10) ((xs.drop k).flatMap Cel.enc)).toArray) := below_setRow (Below.refl _ _) (Nat.le_refl _) _
  rw [HFIN.out] at hc5 hb5 ⊢
  generalize w4.setRow g ((xs.take k ++ x :: xs.drop k).flatMap Cel.enc).toArray = w5 at *
  go_wp2_with fail
  go_ret
  exact ⟨g, rfl, OwR.ofHeap (by rw [List.length_append, List.length_cons, List.length_take, List.length_drop, HL.out]; omega) hc5 hgw (by simp) (by unfold maxLen; omega), Below.trans hEV (Below.mono (Below.trans hb4 hb5) hgw)⟩
end Go.Proofs.YtdmfdimhjemngaaGreatDoor
