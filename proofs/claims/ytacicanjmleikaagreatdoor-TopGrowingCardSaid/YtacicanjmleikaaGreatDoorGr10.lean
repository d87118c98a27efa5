
import Derived.Test.YtacicanjmleikaaGreatDoorGr8
import Derived.Test.YtacicanjmleikaaGreatDoorGr7
import Derived.Test.YtacicanjmleikaaGreatDoorGr9
import Derived.Lib.Overlaps
import Derived.Lib.AppendZeros
import Derived.Lib.AppendZerosOnto
import Derived.Laws.Externs
import Derived.Laws.CopyOwn
import Derived.Laws.Tables
import Derived.OwnWalk
import Derived.WalkMore
/- A part of the proof. -/
namespace Go.Proofs.YtacicanjmleikaaGreatDoor
open Go.RowKit Go.Sort Go.Shelf
set_option linter.unusedSimpArgs false
set_option linter.unusedVariables false
set_option maxRecDepth 100000
theorem pair_rng (a b : Int) : 0 ≤ pairV a b ∧ pairV a b ≤ 18446744073709551615 := fnv_rng _
theorem leaf_rng (a : Int) : 0 ≤ leafV a ∧ leafV a ≤ 18446744073709551615 := fnv_rng _
theorem wf_rng {x : Int} (h : (Lit.int .u64 x).wf = true) : 0 ≤ x ∧ x ≤ 18446744073709551615 := by
 simp [Lit.wf, IntKind.min, IntKind.max, IntKind.bits, IntKind.signed] at h; omega
theorem walkI_cons {root p d : Int} {ps : List Int} {a l : Nat} (h : l ≠ 0) : walkI root (p :: ps) d a l = if rightW a l then walkI root ps (pairV p d) (upA true a l).1 (upA true a l).2 else walkI root ps (pairV d p) (upA false a l).1 (upA false a l).2 := by
 rw [walkI, if_neg h]
 rfl
theorem upA_bd (lo : Bool) {a l : Nat} (h : a ≤ 4096 ∧ l ≤ 4096) : (upA lo a l).1 ≤ 4096 ∧ (upA lo a l).2 ≤ 4096 := by
 have := lone_bd a l
 cases lo <;> simp only [upA, if_true, Bool.false_eq_true, if_false] <;> omega
theorem tincluded_any (root leaf : Int) (hr : 0 ≤ root ∧ root ≤ 18446744073709551615) (hl : 0 ≤ leaf ∧ leaf ≤ 18446744073709551615) (i n : Nat) (hn : 1 ≤ n ∧ n ≤ 4096) (hi : i < n) (pa : Option Addr) (pn pc : Nat) (ps : List Int) (w : World) (h : Sl .u64 w pa pn pc ps) (ht : TB w) :
  Calls Tryz.prog 58 #[.int .u64 root, .int .u64 leaf, .int .i64 i, .int .i64 n, .slice pa pn pc] w fun e w' => e = .returned (.bool (walkI root ps (leafV leaf) i (n - 1))) ∧ Ext w w' := by
 have HP := Lib.hid h
 have bd := h.bd
 have HLN := Lib.hid h.hlen
 have HLF := Lib.hid (fun (W : World) (hx : Ext w W) => tleaf_any leaf hl W (ht.ext hx))
 have HT := Lib.hid ht
 have g1 : ¬ ((n : Int) < 1) := by omega
 have g2 : ¬ ((4096 : Int) < (n : Int)) := by omega
 have g3 : ¬ ((i : Int) < 0) := by omega
 have g4 : ¬ ((n : Int) ≤ (i : Int)) := by omega
 have g5 : decide ((n : Int) < 1) = false := decide_eq_false g1
 have g6 : decide ((4096 : Int) < (n : Int)) = false := decide_eq_false g2
 have g7 : decide ((i : Int) < 0) = false := decide_eq_false g3
 have g8 : decide ((n : Int) ≤ (i : Int)) = false := decide_eq_false g4
 have g9 : ¬ (n ≤ i) := by omega
 have g10 : decide (n ≤ i) = false := decide_eq_false g9
 have k1 : IntKind.u64.wrap (i : Int) = (i : Nat) := by rw [IntKind.wrap_u64]; omega
 have k2 : IntKind.i64.wrap ((n : Int) - 1) = ((n - 1 : Nat) : Int) := by rw [IntKind.wrap_i64]; omega
 have k3 : IntKind.u64.wrap ((n - 1 : Nat) : Int) = ((n - 1 : Nat) : Int) := by rw [IntKind.wrap_u64]; omega
 have hB := Bk.new w 128 #[.int .u64 (i : Nat), .int .u64 (n - 1 : Nat)]
 have hx : Ext w (w.alloc (.cells #[.int .u64 (i : Nat), .int .u64 (n - 1 : Nat)] 128)) := (Ext.refl w).alloc _
 clear h ht
 go_enter Tryz.func58, Tryz.ntmps58
 go_upto_region 4 with fail
 clear g1 g2 g3 g4 g5 g6 g7 g8 g9 g10 k1 k2 k3
 generalize w.alloc (.cells #[.int .u64 (i : Nat), .int .u64 (n - 1 : Nat)] 128) = V at *
 obtain ⟨b, hb⟩ : ∃ b, w.heap.size = b := ⟨_, rfl⟩
 have HB : Hid (w.heap.size ≤ b) := Lib.hid (by omega)
 rw [hb] at hB ⊢
 clear hb
 have HBD : Hid (i ≤ 4096 ∧ n - 1 ≤ 4096) := Lib.hid (by omega)
 obtain ⟨m, hm⟩ : ∃ m, n - 1 = m := ⟨_, rfl⟩
 have HM := Lib.hid hm
 rw [hm] at hB HBD
 clear hm
 go_wp2_with (go_at_call 84; refine (HLF.out _ hx).mono ?_; rintro e V1 ⟨rfl, hx1⟩; refine hold ?_)
 refine held ?_
 replace hB := hB.ext hx1
 replace hx := hx.trans hx1
 clear hx1 HLF
 have HRR := Lib.hid hr
 go_wp2_with fail
 go_loopw [12, 41] (fun d ix wr => ∃ (k a l : Nat) (x : Int), k ≤ pn ∧ d = .int .u64 x ∧ ix = .int .i64 k ∧ Hid (a ≤ 4096 ∧ l ≤ 4096) ∧ Hid (0 ≤ x ∧ x ≤ 18446744073709551615) ∧ Hid (walkI root ps (leafV leaf) i m = walkI root (ps.drop k) x a l) ∧ Wk wr b a l ∧ Ext w wr) (fun _ ix _ => pn - (intOf ix).toNat)
 case atStart => exact ⟨0, i, m, leafV leaf, by omega, rfl, rfl, HBD, Lib.hid (leaf_rng _), Lib.hid rfl, hB, hx⟩
 case round =>
  obtain ⟨k, a, l, x, hk, rfl, rfl, HA, HX, HW, hw, hE⟩ := hrel
  by_cases hlt : k < pn
  ·obtain ⟨x1, o1, rfl, hc⟩ := HP.out.at (by omega)
   have d0 := hE.cell (hc k hlt)
   have HPW := Lib.hid (wf_rng (HP.out.wfAt hlt))
   have HDK : Hid (ps.drop k = nth ps k :: ps.drop (k + 1)) := Lib.hid (by rw [List.drop_eq_getElem_cons (by rw [HLN.out]; exact hlt)]; simp [nth, List.getD_eq_getElem?_getD, HLN.out, hlt])
   clear hc
   rw [HDK.out] at HW
   obtain ⟨p, hp⟩ : ∃ p, nth ps k = p := ⟨_, rfl⟩
   rw [hp] at d0 HPW HW
   clear hp HDK
   have c1 := hw.c 1 _ rfl
   by_cases hl0 : l = 0
   ·subst hl0
    have HF : Hid (walkI root ps (leafV leaf) i m = false) := Lib.hid (by rw [HW.out, walkI, if_pos rfl])
    go_wp2_with fail
    go_ret
    rw [HM.out, HF.out]
    exact ⟨rfl, hE⟩
   ·have h3 : ((l : Int) == 0) = false := by simp; omega
    have h4 : ¬ ((l : Int) = 0) := by omega
    have HL0 := Lib.hid hl0
    have HWR := Lib.hid (wright_any b a l wr hw HA.out)
    rw [walkI_cons hl0] at HW
    have HPX := Lib.hid (fun W => dpair_any p x HPW.out HX.out W)
    have HXP := Lib.hid (fun W => dpair_any x p HX.out HPW.out W)
    cases hrw : rightW a l with
    | true =>
     rw [hrw] at HWR HW
     rw [if_pos rfl] at HW
     have HUP := Lib.hid (fun (W : World) (hx : Ext wr W) => wup_any b a l true w.heap.size W HB.out (hw.ext hx) HA.out)
     clear hl0 hrw
     go_upto_region 10 with fail
     clear d0 c1 h3 h4
     go_wp2_with (go_at_call 62; refine HWR.out.mono ?_; rintro e w1 ⟨rfl, hx1⟩; refine hold ?_)
     refine held ?_
     go_wp2_with (go_at_call 63; refine (HPX.out _).mono ?_; rintro e w2 ⟨rfl, hx2⟩; refine hold ?_)
     refine held ?_
     go_wp2_with (go_at_call 61; refine (HUP.out _ (hx1.trans hx2)).mono ?_; rintro e w3 ⟨⟨v, rfl⟩, hw3, hB3⟩; refine hold ?_)
     refine held ?_
     have hE3 : Ext w w3 := Below.trans ((hE.trans hx1).trans hx2) hB3
     clear hB3 hx1 hx2 hw hE
     go_wp2_with fail
     refine ⟨⟨k + 1, (upA true a l).1, (upA true a l).2, pairV p x, by omega, rfl, by go_num, Lib.hid (upA_bd true HA.out), Lib.hid (pair_rng _ _), HW, hw3, hE3⟩, by simp only [intOf]; omega⟩
    | false =>
     rw [hrw] at HWR HW
     rw [if_neg (by simp)] at HW
     have HUP := Lib.hid (fun (W : World) (hx : Ext wr W) => wup_any b a l false w.heap.size W HB.out (hw.ext hx) HA.out)
     clear hl0 hrw
     go_upto_region 10 with fail
     clear d0 c1 h3 h4
     go_wp2_with (go_at_call 62; refine HWR.out.mono ?_; rintro e w1 ⟨rfl, hx1⟩; refine hold ?_)
     refine held ?_
     go_wp2_with (go_at_call 63; refine (HXP.out _).mono ?_; rintro e w2 ⟨rfl, hx2⟩; refine hold ?_)
     refine held ?_
     go_wp2_with (go_at_call 61; refine (HUP.out _ (hx1.trans hx2)).mono ?_; rintro e w3 ⟨⟨v, rfl⟩, hw3, hB3⟩; refine hold ?_)
     refine held ?_
     have hE3 : Ext w w3 := Below.trans ((hE.trans hx1).trans hx2) hB3
     clear hB3 hx1 hx2 hw hE
     go_wp2_with fail
     refine ⟨⟨k + 1, (upA false a l).1, (upA false a l).2, pairV x p, by omega, rfl, by go_num, Lib.hid (upA_bd false HA.out), Lib.hid (pair_rng _ _), HW, hw3, hE3⟩, by simp only [intOf]; omega⟩
  ·obtain rfl : pn = k := by omega
   have c1 := hw.c 1 _ rfl
   rw [List.drop_eq_nil_of_le (by rw [HLN.out]; omega)] at HW
   by_cases hl0 : l = 0
   ·subst hl0
    have HF : Hid (walkI root ps (leafV leaf) i m = decide (x = root)) := Lib.hid (by rw [HW.out, walkI]; simp)
    go_wp2_with fail
    go_ret
    rw [HM.out, HF.out]
    exact ⟨ret_bool (by rw [Bool.eq_iff_iff]; simp), hE⟩
   ·have h3 : ((l : Int) == 0) = false := by simp; omega
    have HF : Hid (walkI root ps (leafV leaf) i m = false) := Lib.hid (by rw [HW.out, walkI]; simp [hl0])
    go_wp2_with fail
    go_ret
    rw [HM.out, HF.out]
    exact ⟨rfl, hE⟩
open Go.RowKit Go.Sort Go.Shelf
instance : Cel Int where
 dflt := 0
 sz := 1
 enc := fun x => [.int .u64 x]
 ok := fun x => (Lit.int .u64 x).wf = true
 len := fun _ => rfl
 pos := by decide
 one := by intro x v hv; simp at hv; subst hv; rfl
theorem sz_u : Cel.sz Int = 1 := rfl
theorem flat_u (xs : List Int) : xs.flatMap Cel.enc = xs.map (Value.int .u64) := by
 induction xs with
 | nil => rfl
 | cons x xs ih => rw [List.flatMap_cons, ih]; rfl
theorem owr_u {E : TypeId} {base : Nat} {w : World} {a : Option Addr} {n c : Nat} {xs : List Int} : OwR E base w a n c xs ↔ OwI .u64 E base w a n c xs := by
 constructor
 ·intro h
  have := h.2
  rw [flat_u] at this
  exact this
 ·intro h
  refine ⟨h.hlen, ?_⟩
  rw [flat_u]
  exact h
theorem rw_u {w : World} {a : Option Addr} {n c : Nat} {xs : List Int} (h : Sl .u64 w a n c xs) (hl : n ≤ 17592186044416) : Rw (α := Int) w a n c xs := by
 refine ⟨h.hlen, h.le, h.max, hl, fun i hi => ?_, h.wf⟩
 obtain ⟨b, off, e, hc⟩ := h.cells i hi
 refine ⟨b, off, e, fun j v hv => ?_⟩
 have hj : j = 0 := by
  rcases Nat.eq_zero_or_pos j with h | h
  ·exact h
  ·rw [List.getElem?_eq_none (by show 1 ≤ j; omega)] at hv; cases hv
 subst hj
 rw [sz_u, Nat.mul_one, Nat.add_zero, hc]
 exact hv
theorem el_uR : ElS Tryz.prog 42 25 (.int .u64 0) (Cel.sz Int) 8 := ⟨by kernel_rfl, by kernel_rfl, rfl, by decide⟩
theorem Rw.dropA {α : Type} [Cel α] {W : World} {b off n c : Nat} {xs : List α} (h : Rw W (some ⟨b, off, none⟩) n c xs) {m : Nat} (hm : m ≤ n) : Rw W (some ⟨b, off + m * Cel.sz α, none⟩) (n - m) (c - m) (xs.drop m) := by
 refine ⟨by rw [List.length_drop, h.hlen], by have := h.le; omega, by have := h.max; omega, by have := h.lim; omega, fun i hi => ?_, fun x hx => h.wf x (List.mem_of_mem_drop hx)⟩
 obtain ⟨b', off', e, hc⟩ := h.cells (m + i) (by omega)
 simp only [Option.some.injEq, Addr.mk.injEq, and_true] at e
 obtain ⟨rfl, rfl⟩ := e
 refine ⟨b, off + m * Cel.sz α, rfl, ?_⟩
 rw [nthR_drop, show off + m * Cel.sz α + i * Cel.sz α = off + (m + i) * Cel.sz α by rw [Nat.add_mul]; omega]
 exact hc
theorem OwR.headAt {α : Type} [Cel α] {E : TypeId} {base : Nat} {W : World} {a : Option Addr} {n c : Nat} {xs : List α} (h : OwR E base W a n c xs) : (a = none ∧ n = 0 ∧ c = 0) ∨ ∃ g, a = some ⟨g, 0, none⟩ ∧ base ≤ g ∧ g < W.heap.size := by
 rcases h.2.2 with ⟨hv, _⟩ | ⟨g, cap, cur, hv, hg, _⟩
 ·simp only [Value.slice.injEq] at hv; exact .inl hv
 ·simp only [Value.slice.injEq] at hv
  obtain ⟨rfl, _, rfl⟩ := hv
  exact .inr ⟨g, rfl, (h.2.lt g rfl).1, (h.2.lt g rfl).2⟩
section
variable {α : Type} [Cel α]
theorem OwR.row {E : TypeId} {base : Nat} {w : World} {a : Option Addr} {n c : Nat} {xs : List α} (h : OwR E base w a n c xs) (h0 : 0 < n) :
  ∃ g cur, a = some ⟨g, 0, none⟩ ∧ w.heap[g]? = some (.cells (List.toArray cur) E (0, 0)) ∧ base ≤ g ∧ n ≤ c ∧ c ≤ maxLen ∧ cur.length = c * Cel.sz α ∧ cur.take (n * Cel.sz α) = xs.flatMap Cel.enc := by
 obtain ⟨hl, h1, h2⟩ := h
 rcases h2 with ⟨hv, hz⟩ | ⟨g, cap, cur, hv, hb, hg, hle, hm, hs, ht⟩
 ·simp only [Value.slice.injEq] at hv; omega
 ·simp only [Value.slice.injEq] at hv
  obtain ⟨rfl, _, rfl⟩ := hv
  exact ⟨g, cur.toList, rfl, by simpa using hg, hb, hle, hm, by simpa using hs, by simpa using ht⟩
theorem OwR.ofRow {E : TypeId} {base : Nat} {w : World} {g n c : Nat} {cur : List Value} {xs : List α} (hl : xs.length = n) (hg : w.heap[g]? = some (.cells (List.toArray cur) E (0, 0))) (hb : base ≤ g) (hle : n ≤ c) (hm : c ≤ maxLen) (hs : cur.length = c * Cel.sz α) (ht : cur.take (n * Cel.sz α) = xs.flatMap Cel.enc) : OwR E base w (some ⟨g, 0, none⟩) n c xs := by
 have hf := flat_len xs
 rw [hl] at hf
 exact ⟨hl, hf, .inr ⟨g, c, cur.toArray, rfl, hb, hg, hle, hm, by simpa using hs, by simpa using ht⟩⟩
theorem run_copyR {P : Program} {w : World} (dT sT ty : TypeId) (elem : TypeId) (hu : P.underlying dT = some (.slice elem)) (hsz : (P.info? elem).map (·.size) = some (Cel.sz α))
  (dLen dCap sLen sCap m mc : Nat) (hmin : Nat.min sLen dLen = m) (sp : Option Addr) (ys : List α) (hr : Rw w sp m mc ys) (h0 : 0 < m)
  (g off : Nat) (cur : List Value) (t : TypeId) (hg : w.heap[g]? = some (.cells cur.toArray t (0, 0))) (hfit : off + m * Cel.sz α ≤ cur.length) :
  (Builtin.copy_ #[dT, sT] ty #[.slice (some ⟨g, off, none⟩) dLen dCap, .slice sp sLen sCap]).run P w = .ok (goInt m) (w.setRow g (splice cur off (ys.flatMap Cel.enc)).toArray) := by
 have hfl := flat_len ys
 rw [hr.hlen] at hfl
 cases hq : P.info? elem with
 | none => simp [hq] at hsz
 | some i =>
  have hi : i.size = Cel.sz α := by simpa [hq] using hsz
  obtain ⟨b, o2, rfl, _⟩ := hr.at h0
  have hl := run_loadCells_list (P := P) w ⟨b, o2, none⟩ (ys.flatMap Cel.enc) (fun j v hv => by rw [Addr.add_mid]; exact hr.flat j v hv)
  rw [hfl] at hl
  have hst := run_storeCells_at P g off t (ys.flatMap Cel.enc) 0 cur.toArray w hg (by simp only [Nat.add_zero, List.size_toArray]; rw [hfl]; exact hfit) (flat_one ys)
  simp only [Nat.add_zero] at hst
  have e : ∀ n, n * i.size = n * Cel.sz α := fun n => by rw [hi]
  simp [Builtin.copy_, run_underlying hu, Builtin.lenOf, Builtin.firstCells, sizeOf, typeInfo, hq, hi, hmin, hl, hst, splice]
theorem wpList_copyV {P : Program} {w : World} {ops : Array Oper} {rest : List Oper} {o : Oper} {a : Act} {Q : Exit → Act → World → Prop} (hgd : o.guard = none) (d s : Operand) (dT sT : TypeId)
  (ho : o.op = .call { callee := .builtin .copy, args := #[d, s], argTypes := #[dT, sT] }) (elem : TypeId) (hu : P.underlying dT = some (.slice elem)) (hsz : (P.info? elem).map (·.size) = some (Cel.sz α))
  (dLen dCap sLen sCap m mc : Nat) (sp : Option Addr) (g off : Nat) (hd : a.eval d = .slice (some ⟨g, off, none⟩) dLen dCap) (hs : a.eval s = .slice sp sLen sCap) (hmin : Nat.min sLen dLen = m) (ys : List α) (hr : Rw w sp m mc ys) (h0 : 0 < m)
  (cur : List Value) (t : TypeId) (hg : w.heap[g]? = some (.cells cur.toArray t (0, 0))) (hfit : off + m * Cel.sz α ≤ cur.length)
  (h : wpList P ops Q rest (a.put o.dst (goInt m)) (w.setRow g (splice cur off (ys.flatMap Cel.enc)).toArray)) : wpList P ops Q (o :: rest) a w := by
 refine wpList_plain hgd fun K hK => ?_
 have hrun := run_copyR (P := P) dT sT o.type elem hu hsz dLen dCap sLen sCap m mc hmin sp ys hr h0 g off cur t hg hfit
 unfold Oper.wp
 simp [execOp, ho, resolve, invoke, builtin, hd, hs, hrun, Result.andThen]
 exact hK _ _ h
theorem Rw.dropO {w : World} {g n c : Nat} {xs : List α} (h : Rw w (some ⟨g, 0, none⟩) n c xs) {k : Nat} (hk : k ≤ n) : Rw w (some ⟨g, k * Cel.sz α, none⟩) (n - k) (c - k) (xs.drop k) := by
 have := h.dropA hk
 rwa [Nat.zero_add] at this
end
theorem splice_tail {β : Type} (L A B C : List β) (hL : L.take A.length = A) (hl : A.length + (B.length + C.length) ≤ L.length) :
  (splice (splice L (A.length + B.length) C) A.length B).take (A.length + (B.length + C.length)) = A ++ (B ++ C) := by
 have hA : A.length ≤ L.length := by omega
 have e1 : splice L (A.length + B.length) C = L.take (A.length + B.length) ++ C ++ L.drop (A.length + B.length + C.length) := by simp [splice, Nat.add_comm, Nat.add_left_comm]
 have t1 : (L.take (A.length + B.length)).length = A.length + B.length := by rw [List.length_take]; omega
 have t2 : (L.take (A.length + B.length)).take A.length = A := by rw [List.take_take, Nat.min_eq_left (by omega), hL]
 rw [e1]
 generalize L.drop (A.length + B.length + C.length) = D
 generalize hM : L.take (A.length + B.length) = M at *
 have e2 : splice (M ++ C ++ D) A.length B = A ++ B ++ (C ++ D) := by
  have : (M ++ C ++ D).take A.length = A := by rw [List.append_assoc, List.take_append_of_le_length (by omega), t2]
  have h2 : (M ++ C ++ D).drop (A.length + B.length) = C ++ D := by rw [List.append_assoc, ← t1, List.drop_left]
  simp only [splice, this]
  rw [h2, List.append_assoc]
 rw [e2]
 have : A ++ B ++ (C ++ D) = (A ++ (B ++ C)) ++ D := by simp
 rw [this, List.take_left' (by simp)]
theorem splice_head {β : Type} (L A B C : List β) (hL : L.take A.length = A) (hl : A.length + (B.length + C.length) ≤ L.length) :
  (splice (splice L A.length B) (A.length + B.length) C).take (A.length + (B.length + C.length)) = A ++ (B ++ C) := by
 have e1 : splice L A.length B = A ++ B ++ L.drop (A.length + B.length) := by simp [splice, hL]
 rw [e1]
 have t1 : (A ++ B).length = A.length + B.length := List.length_append
 have e2 : splice (A ++ B ++ L.drop (A.length + B.length)) (A.length + B.length) C = A ++ B ++ (C ++ (L.drop (A.length + B.length)).drop C.length) := by
  have h1 : (A ++ B ++ L.drop (A.length + B.length)).take (A.length + B.length) = A ++ B := by rw [← t1, List.take_left]
  have h2 : (A ++ B ++ L.drop (A.length + B.length)).drop (A.length + B.length + C.length) = (L.drop (A.length + B.length)).drop C.length := by rw [← List.drop_drop, ← t1, List.drop_left]
  simp only [splice, h1, h2]
 rw [e2]
 generalize (L.drop (A.length + B.length)).drop C.length = D
 have : A ++ B ++ (C ++ D) = (A ++ (B ++ C)) ++ D := by simp
 rw [this, List.take_left' (by simp)]
theorem splice_lenV {β : Type} (L : List β) (o : Nat) (C : List β) (h : o + C.length ≤ L.length) : (splice L o C).length = L.length := length_splice L o C h
theorem inf_u : (Tryz.prog.info? 25).map (·.size) = some (Cel.sz Int) := by kernel_rfl
theorem cloneU_any (a : Option Addr) (n c : Nat) (xs : List Int) (w : World) (h1 : Rw w a n c xs) (hs : n ≤ 1000000) :
  Calls Tryz.prog 60 #[.slice a n c] w fun e w' => ∃ a' c', e = .returned (.slice a' n c') ∧ OwR 25 w.heap.size w' a' n c' xs ∧ Ext w w' := by
 have bd := h1.bd
 have hnil := fun (W : World) => Lib.run_eql_slice_nil (P := Tryz.prog) W 42 25 a n c 0 0 Tryz.underlying42
 rcases a with _ | ad
 ·obtain rfl : n = 0 := by
   rcases Nat.eq_zero_or_pos n with h | h
   ·exact h
   ·obtain ⟨_, _, e, _⟩ := h1.at h; cases e
  obtain rfl := h1.isnil
  go_enter Tryz.func60, Tryz.ntmps60
  go_wp2_with fail
  go_ret
  exact ⟨none, 0, rfl, OwR.nil _ _ _, Ext.refl w⟩
 ·have ho0 := OwR.litNil (α := Int) (E := 25) (base := w.heap.size) w (Nat.le_refl _)
  have h2 := h1.ext ((Ext.refl w).alloc (.cells #[] 25))
  go_enter Tryz.func60, Tryz.ntmps60
  go_wp2_with (at_builtin; refine appRs el_uR rfl _ _ rfl _ w.heap.size _ _ _ _ rfl ho0 _ _ _ _ rfl h2 (by simp) (by unfold maxLen; omega) (by omega) ?_; intro a' c' w' ho hB; refine hold ?_)
  refine held ?_
  simp only [Nat.zero_add, List.nil_append] at ho ⊢
  go_wp2_with fail
  go_ret
  exact ⟨a', c', rfl, ho, Below.trans ((Ext.refl w).alloc _) hB⟩
theorem Rw.one {w : World} {vb : Nat} {x : Int} (hx : Cel.ok x) (h : Bk w vb 25 #[.int .u64 x]) : Rw w (some ⟨vb, 0, none⟩) 1 1 [x] := by
 refine ⟨rfl, Nat.le_refl _, by unfold maxLen; omega, by omega, fun i hi => ⟨vb, 0, rfl, ?_⟩, fun y hy => ?_⟩
 ·obtain rfl : i = 0 := by omega
  intro j v hv
  rw [Nat.zero_mul]
  simp only [Nat.zero_add]
  exact h.c j v (by simpa [nthR, Cel.enc] using hv)
 ·rw [List.mem_singleton.1 hy]; exact hx
set_option maxHeartbeats 4000000 in
theorem uinsert_end (a : Option Addr) (n c : Nat) (l : List Int) (x : Int) (vb base : Nat) (w : World) (hown : OwR 25 base w a n c l) (hb : base ≤ w.heap.size) (hn : n ≤ 1000000) (hx : Cel.ok x) (hv : Bk w vb 25 #[.int .u64 x]) :
  Calls Tryz.prog 59 #[.slice a n c, .int .i64 (n : Nat), .slice (some ⟨vb, 0, none⟩) 1 1] w fun e w' => ∃ g c', e = .returned (.slice (some ⟨g, 0, none⟩) (n + 1) c') ∧ OwR 25 base w' (some ⟨g, 0, none⟩) (n + 1) c' (l ++ [x]) ∧ Below base w w' := by
 have hr := Rw.one hx hv
 have hcb : n ≤ c ∧ c ≤ 9223372036854775807 := by
  rcases Nat.eq_zero_or_pos n with h0 | h0
  ·subst h0
   rcases hown.2.2 with ⟨h, _⟩ | ⟨_, cap, _, h, _, _, _, hm, _⟩
   ·simp only [Value.slice.injEq] at h; omega
   ·simp only [Value.slice.injEq] at h; unfold maxLen at hm; omega
  ·obtain ⟨_, _, _, _, _, h1, h2, _⟩ := hown.row h0
   unfold maxLen at h2; omega
 have hcb1 := hcb.1
 have hcb2 := hcb.2
 have hnn : ((n : Int) == (n : Int)) = true := by simp
 have fin : ∀ (g c' : Nat) (w' : World), OwR 25 base w' (some ⟨g, 0, none⟩) (n + 1) c' (l ++ [x]) → Below base w w' → ∃ g1 c1, Ending.returned (.slice (some ⟨g, 0, none⟩) (n + 1) c') = .returned (.slice (some ⟨g1, 0, none⟩) (n + 1) c1) ∧ OwR 25 base w' (some ⟨g1, 0, none⟩) (n + 1) c1 (l ++ [x]) ∧ Below base w w' := fun g c' w' h1 h2 => ⟨g, c', rfl, h1, h2⟩
 rcases hown.headAt with ⟨rfl, rfl, rfl⟩ | ⟨g, rfl, hg1, hg2⟩
 ·go_enter Tryz.func59, Tryz.ntmps59
  go_wp2_with (at_builtin; refine appRs el_uR rfl _ _ rfl _ base _ _ _ _ rfl hown _ 1 1 [x] rfl hr hb (by unfold maxLen; omega) (by omega) ?_; intro a' c' w' ho hB; refine hold ?_)
  refine held ?_
  have hd := ho.headAt
  rcases hd with ⟨_, h0, _⟩ | ⟨g', rfl, _, _⟩
  ·omega
  go_wp2_with fail
  go_ret
  exact fin _ _ _ ho hB
 ·go_enter Tryz.func59, Tryz.ntmps59
  go_wp2_with (at_builtin; refine appRs el_uR rfl _ _ rfl _ base _ _ _ _ rfl hown _ 1 1 [x] rfl hr hb (by unfold maxLen; omega) (by omega) ?_; intro a' c' w' ho hB; refine hold ?_)
  all_goals
   refine held ?_
   have hd := ho.headAt
   rcases hd with ⟨_, h0, _⟩ | ⟨g', rfl, _, _⟩
   ·omega
   go_wp2_with fail
   go_ret
   exact fin _ _ _ ho hB
set_option maxHeartbeats 8000000 in
theorem uinsert_room (g n c : Nat) (l : List Int) (k : Nat) (x : Int) (vb base : Nat) (w : World) (hown : OwR 25 base w (some ⟨g, 0, none⟩) n c l) (hok : ∀ y ∈ l, Cel.ok y) (hb : base ≤ w.heap.size) (hn : n ≤ 1000000) (hk : k < n) (hroom : n + 1 ≤ c) (hx : Cel.ok x) (hv : Bk w vb 25 #[.int .u64 x]) (hne : vb ≠ g) :
  Calls Tryz.prog 59 #[.slice (some ⟨g, 0, none⟩) n c, .int .i64 (k : Nat), .slice (some ⟨vb, 0, none⟩) 1 1] w fun e w' => ∃ g c', e = .returned (.slice (some ⟨g, 0, none⟩) (n + 1) c') ∧ OwR 25 base w' (some ⟨g, 0, none⟩) (n + 1) c' (l.take k ++ x :: l.drop k) ∧ Below base w w' := by
 have hrv := Rw.one hx hv
 have hlen := hown.1
 obtain ⟨g', cur, he, hg, hbg, hle, hcm, hcl, hct⟩ := hown.row (by omega)
 simp only [Option.some.injEq, Addr.mk.injEq, and_true] at he
 subst he
 have hcm2 : c ≤ 9223372036854775807 := by unfold maxLen at hcm; omega
 have hrw := hown.rw (by omega) hok
 have hgs : g < w.heap.size := (Array.getElem?_eq_some_iff.1 hg).1
 have hk2 : (k : Int) ≤ (n : Int) := by omega
 have hkn : ((k : Int) == (n : Int)) = false := by simp; omega
 have hkn2 : ¬ ((k : Int) = (n : Int)) := by omega
 have hkn3 : ¬ (k = n) := by omega
 have hkc : ¬ (c = k) := by omega
 have hkc2 : k ≤ c := by omega
 simp only [sz_u, Nat.mul_one] at hcl hct
 have hfl := fun (ys : List Int) => flat_len ys
 have htk : ((l.take k).flatMap Cel.enc).length = k := by simp only [hfl, List.length_take, hlen, sz_u, Nat.mul_one]; omega
 have hdk : ((l.drop k).flatMap Cel.enc).length = (n - k) := by simp only [hfl, List.length_drop, hlen, sz_u, Nat.mul_one]
 have hxl : (Cel.enc x).length = 1 := Cel.len x
 have hx1 : ([x].flatMap Cel.enc : List Value) = Cel.enc x := by simp
 have hroom2 : ¬ ((c : Int) < (n : Int) + 1) := by omega
 have hroom3 : (n : Int) + 1 ≤ (c : Int) := by omega
 have hk3 : (k : Int) + 1 ≤ (n : Int) + 1 := by omega
 have hk3' : (k : Int) ≤ (n : Int) + 1 := by omega
 have hk4 : ¬ (c = k + 1) := by omega
 have hk5 : ((k : Int) + 1).toNat = k + 1 := by omega
 have hk7 : (0 : Int) ≤ (k : Int) + 1 := by omega
 have hcn : ¬ (c = n + 1 ∧ False) := by simp
 have hprefix : cur.take (k) = (l.take k).flatMap Cel.enc := by
  have h1 : l.flatMap Cel.enc = (l.take k).flatMap Cel.enc ++ (l.drop k).flatMap Cel.enc := by rw [← List.flatMap_append, List.take_append_drop]
  rw [h1] at hct
  have h2 := congrArg (List.take (k)) hct
  rwa [List.take_take, Nat.min_eq_left (by omega), List.take_left' htk] at h2
 have HFIN : Hid ((splice (splice cur (k + 1) ((l.drop k).flatMap Cel.enc)) (k) (Cel.enc x)).take ((n + 1)) = (l.take k ++ x :: l.drop k).flatMap Cel.enc) := Lib.hid (by
  have := splice_tail cur ((l.take k).flatMap Cel.enc) (Cel.enc x) ((l.drop k).flatMap Cel.enc) (by rw [htk]; exact hprefix) (by rw [htk, hxl, hdk]; omega)
  rw [htk, hxl, hdk, show k + (1 + (n - k)) = (n + 1) by omega] at this
  rw [this, List.flatMap_append, List.flatMap_cons])
 have hl1 : (splice cur (k + 1) ((l.drop k).flatMap Cel.enc)).length = cur.length := splice_lenV _ _ _ (by rw [hdk]; omega)
 have hl2 : (splice (splice cur (k + 1) ((l.drop k).flatMap Cel.enc)) (k) (Cel.enc x)).length = cur.length := by rw [splice_lenV _ _ _ (by rw [hxl, hl1]; omega), hl1]
 have hov : ∀ lb cb, (callFunc 94 #[.slice (some ⟨vb, 0, none⟩) 1 1, .slice (some ⟨g, k + 1, none⟩) lb cb]).run Tryz.prog w = .ok (.value (.bool false)) w := fun lb cb => by
  rw [run_callFunc_extern Tryz.func94 (by kernel_rfl) (by kernel_rfl) (by kernel_rfl) (e := Extern.SlicesOverlaps.overlaps #[42, 42] #[4]) (by kernel_rfl),
   Lib.run_overlaps_apart w 42 4 25 Tryz.underlying42 1 Tryz.sizeOf25 ⟨vb, 0, none⟩ ⟨g, k + 1, none⟩ 1 1 lb cb hne 25 25 1 cur.length (by unfold World.shape?; rw [show w.heap[vb]? = _ from hv]; rfl) (by simp [World.shape?, hg]) (by omega) (hv.free 0) (hv.free 1)]
  rfl
 have hrd := hrw.dropO (k := k) (by omega)
 rw [sz_u, Nat.mul_one] at hrd
 have L1 := Lib.hid hl1
 have L2 := Lib.hid hl2
 have HCL := Lib.hid hcl
 have hw1 : IntKind.i64.wrap ((k : Int) + 1) = (k : Int) + 1 := by rw [IntKind.wrap_i64]; omega
 have hDL := Lib.hid hdk
 have hXL := Lib.hid hxl
 clear hl1 hl2 hcl hfl htk hdk hxl hx1 hct hprefix hcn
 go_enter Tryz.func59, Tryz.ntmps59
 go_upto_region 15 with (simp only [hov])
 refine region_tail 8 (by kernel_rfl) (by kernel_rfl) ?_
 simp only [List.take_succ_cons, List.take_zero, List.drop_succ_cons, List.drop_zero]
 clear hov
 repeat (go_big_quiet_step (fail))
 refine wpQuiet_nil ?_
 intro w4 hx4
 have hg4 : w4.heap[g]? = some (.cells (List.toArray cur) 25 (0, 0)) := (hx4.block g hgs).trans hg
 have hr4 := hrd.ext hx4
 have hv4 := hv.ext hx4
 clear hg hrd hv hrv hrw hown
 have hm1 : ∀ q, Nat.min (n + 1 - k) (n - k + q) = n - k + q ∨ True := fun q => .inr trivial
 have hm2 : Nat.min (n + 1 - k) (n - k) = n - k := by simp only [Nat.min_def]; split <;> omega
 have hm3 : Nat.min (n + 1 - k) (n + 1 - (k + 1)) = n - k := by simp only [Nat.min_def]; split <;> omega
 have hm4 : Nat.min 1 (n + 1 - k) = 1 := by simp only [Nat.min_def]; split <;> omega
 clear hm1
 go_wp2_with (refine wpList_copyV (α := Int) rfl _ _ 42 42 rfl 25 Tryz.underlying42 inf_u _ _ _ _ (n - k) (c - k) _ g (k + 1) rfl rfl (by first | exact hm2 | exact hm3) (l.drop k) hr4 (by omega) cur 25 hg4 (by have := HCL.out; simp only [sz_u, Nat.mul_one]; omega) ?_; refine hold ?_)
 refine held ?_
 obtain ⟨C1, hC1⟩ : ∃ C1, splice cur (k + 1) ((l.drop k).flatMap Cel.enc) = C1 := ⟨_, rfl⟩
 have HC1 := Lib.hid hC1
 have LC1 : Hid (C1.length = cur.length) := Lib.hid (by rw [← HC1.out]; exact L1.out)
 have hg5 : (w4.setRow g (splice cur (k + 1) ((l.drop k).flatMap Cel.enc)).toArray).heap[g]? = some (.cells (splice cur (k + 1) ((l.drop k).flatMap Cel.enc)).toArray 25 (0, 0)) := setRow_heap w4 g _ _ _ _ hg4
 have hb5 : Below g w4 (w4.setRow g (splice cur (k + 1) ((l.drop k).flatMap Cel.enc)).toArray) := below_setRow (Below.refl _ _) (Nat.le_refl _) _
 have hv5 : Bk (w4.setRow g (splice cur (k + 1) ((l.drop k).flatMap Cel.enc)).toArray) vb 25 #[.int .u64 x] := (setRow_other w4 g vb _ hne).trans hv4
 rw [hC1] at hg5 hb5 hv5 ⊢
 clear hC1 hg4 hr4 hv4
 generalize w4.setRow g C1.toArray = w5 at *
 have hr5 := Rw.one hx hv5
 go_wp2_with (refine wpList_copyV (α := Int) rfl _ _ 42 42 rfl 25 Tryz.underlying42 inf_u _ _ _ _ 1 1 _ g (k) rfl rfl (by exact hm4) [x] hr5 (by omega) C1 25 hg5 (by have := HCL.out; have := LC1.out; simp only [sz_u, Nat.mul_one]; omega) ?_; refine hold ?_)
 refine held ?_
 have hg6 : (w5.setRow g (splice C1 (k) (Cel.enc x)).toArray).heap[g]? = some (.cells (splice C1 (k) (Cel.enc x)).toArray 25 (0, 0)) := setRow_heap w5 g _ _ _ _ hg5
 have hb6 : Below g w5 (w5.setRow g (splice C1 (k) (Cel.enc x)).toArray) := below_setRow (Below.refl _ _) (Nat.le_refl _) _
 obtain ⟨C2, hC2⟩ : ∃ C2, splice C1 (k) (Cel.enc x) = C2 := ⟨_, rfl⟩
 have HC2 : Hid (splice C1 (k) (Cel.enc x) = C2) := Lib.hid hC2
 rw [hC2] at hg6 hb6 ⊢
 clear hC2
 generalize w5.setRow g C2.toArray = w6 at *
 have HF2 : Hid (C2.take ((n + 1)) = (l.take k ++ x :: l.drop k).flatMap Cel.enc ∧ C2.length = c) := Lib.hid ⟨by rw [← HC2.out, ← HC1.out]; exact HFIN.out, by rw [← HC2.out, ← HC1.out, L2.out, HCL.out]⟩
 go_wp2_with fail
 go_ret
 exact ⟨g, c, rfl, OwR.ofRow (by rw [List.length_append, List.length_take, List.length_cons, List.length_drop, hlen]; omega) hg6 hbg hroom hcm (by simp only [sz_u, Nat.mul_one]; exact HF2.out.2) (by simp only [sz_u, Nat.mul_one]; exact HF2.out.1), Below.trans (Below.mono hx4 hb) (Below.mono (Below.trans hb5 hb6) hbg)⟩
set_option maxHeartbeats 8000000 in
theorem uinsert_grow (g n c : Nat) (l : List Int) (k : Nat) (x : Int) (vb base : Nat) (w : World) (hown : OwR 25 base w (some ⟨g, 0, none⟩) n c l) (hok : ∀ y ∈ l, Cel.ok y) (hb : base ≤ w.heap.size) (hn : n ≤ 1000000) (hk : k < n) (hroom : c < n + 1) (hx : Cel.ok x) (hv : Bk w vb 25 #[.int .u64 x]) :
  Calls Tryz.prog 59 #[.slice (some ⟨g, 0, none⟩) n c, .int .i64 (k : Nat), .slice (some ⟨vb, 0, none⟩) 1 1] w fun e w' => ∃ g c', e = .returned (.slice (some ⟨g, 0, none⟩) (n + 1) c') ∧ OwR 25 base w' (some ⟨g, 0, none⟩) (n + 1) c' (l.take k ++ x :: l.drop k) ∧ Below base w w' := by
 have hrv := Rw.one hx hv
 have hlen := hown.1
 obtain ⟨g', cur, he, hg, hbg, hle, hcm, hcl, hct⟩ := hown.row (by omega)
 simp only [Option.some.injEq, Addr.mk.injEq, and_true] at he
 subst he
 have hcm2 : c ≤ 9223372036854775807 := by unfold maxLen at hcm; omega
 have hrw := hown.rw (by omega) hok
 have hgs : g < w.heap.size := (Array.getElem?_eq_some_iff.1 hg).1
 have hk2 : (k : Int) ≤ (n : Int) := by omega
 have hkn : ((k : Int) == (n : Int)) = false := by simp; omega
 have hkn2 : ¬ ((k : Int) = (n : Int)) := by omega
 have hkn3 : ¬ (k = n) := by omega
 have hkc : ¬ (c = k) := by omega
 have hkc2 : k ≤ c := by omega
 simp only [sz_u, Nat.mul_one] at hcl hct
 have hfl := fun (ys : List Int) => flat_len ys
 have htk : ((l.take k).flatMap Cel.enc).length = k := by simp only [hfl, List.length_take, hlen, sz_u, Nat.mul_one]; omega
 have hdk : ((l.drop k).flatMap Cel.enc).length = (n - k) := by simp only [hfl, List.length_drop, hlen, sz_u, Nat.mul_one]
 have hxl : (Cel.enc x).length = 1 := Cel.len x
 have hx1 : ([x].flatMap Cel.enc : List Value) = Cel.enc x := by simp
 obtain ⟨i0, hi0, hz0, hzs, hzb⟩ := info_parts el_uR.2.1
 rw [sz_u] at hzs
 have hroom2 : (c : Int) < (n : Int) + 1 := by omega
 have hflat : w.rangeAt g 0 (l.flatMap Cel.enc) := hrw.flat
 have hsplit : l.flatMap Cel.enc = (l.take k).flatMap Cel.enc ++ (l.drop k).flatMap Cel.enc := by rw [← List.flatMap_append, List.take_append_drop]
 have hold : (Builtin.firstCells i0.size k (.slice (some ⟨g, 0, none⟩) k c)).run Tryz.prog w.drew = .ok ((l.take k).flatMap Cel.enc).toArray w.drew := by
  rw [hzs]
  exact run_firstCells_some w.drew 1 k ⟨g, 0, none⟩ k c ((l.take k).flatMap Cel.enc) (by rw [htk, Nat.mul_one]) (fun j v hj => by
   rw [Addr.add_lit, Nat.zero_add]
   have := hflat j v (by rw [hsplit, List.getElem?_append_left ((List.getElem?_eq_some_iff.1 hj).1)]; exact hj)
   rwa [Nat.zero_add] at this)
 have hkk : (n : Int) + 1 - (k : Int) = ((n + 1 - k : Nat) : Int) := by omega
 have hik : k + (n + 1 - k) = n + 1 := by omega
 have hrz : ∀ ty, (Builtin.append_ #[42, 3] ty #[.slice (some ⟨g, 0, none⟩) k c, .int .i64 ((n : Int) + 1 - (k : Int))]).run Tryz.prog w =
   .ok (.slice (some ⟨w.heap.size, 0, none⟩) (n + 1) (grownCap w (n + 1) c 25)) (w.drew.alloc (.cells (((l.take k).flatMap Cel.enc).toArray ++ Builtin.zeroCells (Value.int .u64 0).cells (n + 1 - k) ++ Builtin.zeroCells (Value.int .u64 0).cells (grownCap w (n + 1) c 25 - (n + 1))) 25)) := fun ty => by
  have h := Lib.run_append_grow_zeros w 42 3 ty 25 i0 _ .i64 .i64 Tryz.underlying42 Tryz.underlying3 hi0 hz0 (some ⟨g, 0, none⟩) k c ((l.take k).flatMap Cel.enc) hold (n + 1 - k) (by omega) (by omega) (by omega) (by omega) (by rw [hzb]; omega) (by rw [hzb, hik]; exact growslice_fits hroom (by omega))
  rw [hik] at h
  rw [hkk]
  exact h
 have hGn : n + 1 ≤ grownCap w (n + 1) c 25 := grownCap_ge w _ _ _
 have hGm : grownCap w (n + 1) c 25 ≤ maxLen := grownCap_le_maxLen w (n + 1) c 25 (by unfold maxLen; omega)
 generalize grownCap w (n + 1) c 25 = G at *
 have hG63 : G ≤ 9223372036854775807 := by unfold maxLen at hGm; omega
 obtain ⟨ROW, hROW⟩ : ∃ ROW : List Value, ROW = (((l.take k).flatMap Cel.enc).toArray ++ Builtin.zeroCells (Value.int .u64 0).cells (n + 1 - k) ++ Builtin.zeroCells (Value.int .u64 0).cells (G - (n + 1))).toList := ⟨_, rfl⟩
 have hRA : ((l.take k).flatMap Cel.enc).toArray ++ Builtin.zeroCells (Value.int .u64 0).cells (n + 1 - k) ++ Builtin.zeroCells (Value.int .u64 0).cells (G - (n + 1)) = ROW.toArray := by rw [hROW]
 have hRp : ROW.take (k) = (l.take k).flatMap Cel.enc := by
  rw [hROW]; simp only [Array.toList_append, List.append_assoc]; rw [List.take_left' htk]
 have hzc : ∀ q, (Builtin.zeroCells (Value.int .u64 0).cells q).size = q := fun q => by simp [Builtin.zeroCells, Value.cells]
 have hRl : ROW.length = G := by
  rw [hROW]; simp only [Array.toList_append, List.length_append, Array.length_toList, hzc, htk]; omega
 rw [hRA] at hrz
 have HFIN : Hid ((splice (splice ROW (k) (Cel.enc x)) (k + 1) ((l.drop k).flatMap Cel.enc)).take ((n + 1)) = (l.take k ++ x :: l.drop k).flatMap Cel.enc) := Lib.hid (by
  have := splice_head ROW ((l.take k).flatMap Cel.enc) (Cel.enc x) ((l.drop k).flatMap Cel.enc) (by rw [htk]; exact hRp) (by rw [htk, hxl, hdk]; omega)
  rw [htk, hxl, hdk, show k + (1 + (n - k)) = (n + 1) by omega] at this
  rw [this, List.flatMap_append, List.flatMap_cons])
 have L1 : Hid ((splice ROW (k) (Cel.enc x)).length = ROW.length) := Lib.hid (splice_lenV _ _ _ (by rw [hxl]; omega))
 have L2 : Hid ((splice (splice ROW (k) (Cel.enc x)) (k + 1) ((l.drop k).flatMap Cel.enc)).length = ROW.length) := Lib.hid (by rw [splice_lenV _ _ _ (by rw [hdk, L1.out]; omega), L1.out])
 have HRL := Lib.hid hRl
 have hrd := hrw.dropO (k := k) (by omega)
 rw [sz_u, Nat.mul_one] at hrd
 have hw1 : IntKind.i64.wrap ((k : Int) + 1) = (k : Int) + 1 := by rw [IntKind.wrap_i64]; omega
 have hGi : ¬ (G = k) := by omega
 have hGim : ¬ (G = k + 1) := by omega
 have hk7 : (0 : Int) ≤ (k : Int) + 1 := by omega
 have hk5 : ((k : Int) + 1).toNat = k + 1 := by omega
 have hk3 : (k : Int) + 1 ≤ (n : Int) + 1 := by omega
 have hk3' : (k : Int) ≤ (n : Int) + 1 := by omega
 have hm2 : Nat.min (n - k) (n - k) = n - k := Nat.min_self _
 have hm3 : Nat.min (n - k) (n + 1 - (k + 1)) = n - k := by simp only [Nat.min_def]; split <;> omega
 have hm4 : Nat.min 1 (n + 1 - k) = 1 := by simp only [Nat.min_def]; split <;> omega
 have hE1 : Ext w (w.alloc (.cells ROW.toArray 25)).drew := ((Ext.refl w).alloc _).drew
 have hq1 : (w.alloc (.cells ROW.toArray 25)).drew.heap[w.heap.size]? = some (.cells ROW.toArray 25 (0, 0)) := World.alloc_heap_new w _
 have hv1 := hv.ext hE1
 have hrd1 := hrd.ext hE1
 have hvw : vb < w.heap.size := hv.lt
 clear hROW hRA hRp hRl hcl hfl htk hdk hxl hx1 hct hflat hsplit hold hkk hik hzc hrw hrd hrv hi0 hz0 hzs hzb hg hown hok hv
 go_enter Tryz.func59, Tryz.ntmps59
 go_wp2_with (at_builtin; refine Lib.wpList_append_run _ rfl _ _ _ _ rfl _ _ rfl rfl _ _ (hrz _) ?_; refine hold ?_)
 refine held ?_
 have hqn : ∀ b, b < w.heap.size → b ≠ w.heap.size := fun b h => by omega
 have hbq : base ≤ w.heap.size := hb
 clear hrz
 generalize (w.alloc (.cells ROW.toArray 25)).drew = w1 at *
 obtain ⟨q, hq⟩ : ∃ q, w.heap.size = q := ⟨_, rfl⟩
 rw [hq] at hq1 hvw hqn hbq ⊢
 have HQ := Lib.hid hq
 have hgs2 : g < q := by omega
 clear hq
 have hr5 := Rw.one hx hv1
 go_wp2_with (refine wpList_copyV (α := Int) rfl _ _ 42 42 rfl 25 Tryz.underlying42 inf_u _ _ _ _ 1 1 _ q (k) rfl rfl (by exact hm4) [x] hr5 (by omega) ROW 25 hq1 (by have := HRL.out; simp only [sz_u, Nat.mul_one]; omega) ?_; refine hold ?_)
 refine held ?_
 obtain ⟨C1, hC1⟩ : ∃ C1, splice ROW (k) (Cel.enc x) = C1 := ⟨_, rfl⟩
 have HC1 := Lib.hid hC1
 have LC1 : Hid (C1.length = ROW.length) := Lib.hid (by rw [← HC1.out]; exact L1.out)
 have hg5 : (w1.setRow q (splice ROW (k) (Cel.enc x)).toArray).heap[q]? = some (.cells (splice ROW (k) (Cel.enc x)).toArray 25 (0, 0)) := setRow_heap w1 q _ _ _ _ hq1
 have hb5 : Below q w1 (w1.setRow q (splice ROW (k) (Cel.enc x)).toArray) := below_setRow (Below.refl _ _) (Nat.le_refl _) _
 have hr6 : Rw (w1.setRow q (splice ROW (k) (Cel.enc x)).toArray) (some ⟨g, k, none⟩) (n - k) (c - k) (l.drop k) := hrd1.below (fun b off hb2 _ => by
  simp only [Option.some.injEq, Addr.mk.injEq] at hb2
  exact setRow_other w1 q b _ (by omega))
 rw [hC1] at hg5 hb5 hr6 ⊢
 clear hC1 hr5 hrd1 hv1 hq1
 generalize w1.setRow q C1.toArray = w5 at *
 have hq5 : q < w5.heap.size := (Array.getElem?_eq_some_iff.1 hg5).1
 go_upto_region 11 with fail
 refine region_tail 8 (by kernel_rfl) (by kernel_rfl) ?_
 simp only [List.take_succ_cons, List.take_zero, List.drop_succ_cons, List.drop_zero]
 repeat (go_big_quiet_step (fail))
 refine wpQuiet_nil ?_
 intro w6 hx6
 have hg6 := (hx6.block q hq5).trans hg5
 have hr7 := hr6.ext hx6
 clear hg5 hr6
 go_wp2_with (refine wpList_copyV (α := Int) rfl _ _ 42 42 rfl 25 Tryz.underlying42 inf_u _ _ _ _ (n - k) (c - k) _ q (k + 1) rfl rfl (by first | exact hm2 | exact hm3) (l.drop k) hr7 (by omega) C1 25 hg6 (by have := HRL.out; have := LC1.out; simp only [sz_u, Nat.mul_one]; omega) ?_; refine hold ?_)
 refine held ?_
 have hg7 : (w6.setRow q (splice C1 (k + 1) ((l.drop k).flatMap Cel.enc)).toArray).heap[q]? = some (.cells (splice C1 (k + 1) ((l.drop k).flatMap Cel.enc)).toArray 25 (0, 0)) := setRow_heap w6 q _ _ _ _ hg6
 have hb7 : Below q w6 (w6.setRow q (splice C1 (k + 1) ((l.drop k).flatMap Cel.enc)).toArray) := below_setRow (Below.refl _ _) (Nat.le_refl _) _
 obtain ⟨C2, hC2⟩ : ∃ C2, splice C1 (k + 1) ((l.drop k).flatMap Cel.enc) = C2 := ⟨_, rfl⟩
 have HC2 := Lib.hid hC2
 rw [hC2] at hg7 hb7 ⊢
 clear hC2
 generalize w6.setRow q C2.toArray = w7 at *
 have HF2 : Hid (C2.take ((n + 1)) = (l.take k ++ x :: l.drop k).flatMap Cel.enc ∧ C2.length = G) := Lib.hid ⟨by rw [← HC2.out, ← HC1.out]; exact HFIN.out, by rw [← HC2.out, ← HC1.out, L2.out, HRL.out]⟩
 have hbl : Below base w w7 := Below.trans (Below.mono hE1 hb) (Below.mono (Below.trans (Below.trans hb5 (Below.mono hx6 (by omega))) hb7) hbq)
 go_wp2_with fail
 go_ret
 exact ⟨q, G, rfl, OwR.ofRow (by rw [List.length_append, List.length_take, List.length_cons, List.length_drop, hlen]; omega) hg7 hbq hGn hGm (by simp only [sz_u, Nat.mul_one]; exact HF2.out.2) (by simp only [sz_u, Nat.mul_one]; exact HF2.out.1), hbl⟩
theorem uinsert_any (a : Option Addr) (n c : Nat) (l : List Int) (k : Nat) (x : Int) (vb base : Nat) (w : World) (hown : OwR 25 base w a n c l) (hok : ∀ y ∈ l, Cel.ok y) (hb : base ≤ w.heap.size) (hn : n ≤ 1000000) (hk : k ≤ n) (hx : Cel.ok x) (hv : Bk w vb 25 #[.int .u64 x]) (hne : 0 < n → ∀ g, a = some ⟨g, 0, none⟩ → vb ≠ g) :
  Calls Tryz.prog 59 #[.slice a n c, .int .i64 (k : Nat), .slice (some ⟨vb, 0, none⟩) 1 1] w fun e w' => ∃ g c', e = .returned (.slice (some ⟨g, 0, none⟩) (n + 1) c') ∧ OwR 25 base w' (some ⟨g, 0, none⟩) (n + 1) c' (l.take k ++ x :: l.drop k) ∧ Below base w w' := by
 rcases Nat.lt_or_ge k n with h | h
 ·obtain ⟨g, cur, rfl, _, _, _, _, _, _⟩ := hown.row (by omega)
  rcases Nat.lt_or_ge c (n + 1) with h2 | h2
  ·exact uinsert_grow g n c l k x vb base w hown hok hb hn h h2 hx hv
  ·exact uinsert_room g n c l k x vb base w hown hok hb hn h h2 hx hv (hne (by omega) g rfl)
 ·obtain rfl : k = n := by omega
  have e : l.take k ++ x :: l.drop k = l ++ [x] := by rw [List.take_of_length_le (by rw [hown.1]; exact Nat.le_refl _), List.drop_of_length_le (by rw [hown.1]; exact Nat.le_refl _)]
  rw [e]
  exact uinsert_end a k c l x vb base w hown hb hn hx hv
open Go.RowKit Go.Sort Go.Shelf
def exV (a b : Int) (m n : Nat) (ps : List Int) : Bool := if m = n then decide (ps.length = 0) && decide (a = b) else startE a b (if powB m then a :: ps else ps) (m - 1) (n - 1)
theorem exB_V {a b : Int} {m n : Nat} {ps : List Int} (h1 : 1 ≤ m) (h2 : m ≤ n) (h3 : n ≤ 4096) : exB a b m n ps = exV a b m n ps := by
 unfold exB exV
 rw [decide_eq_false (by omega), decide_eq_false (by omega), decide_eq_false (by omega), decide_eq_false (by omega)]
 by_cases h : m = n
 ·subst h; simp
 ·rw [if_neg (by omega), if_neg h]; simp
theorem and_pow {m : Nat} (h1 : 1 ≤ m) (h : m ≤ 4096) : bits .and .i64 (m : Int) ((m - 1 : Nat) : Int) = ((m &&& (m - 1) : Nat) : Int) := by
 show IntKind.i64.wrap ((BitVec.ofInt 64 (m : Int) &&& BitVec.ofInt 64 ((m - 1 : Nat) : Int)).toNat : Int) = _
 have hle : m &&& (m - 1) ≤ m := Nat.and_le_left
 rw [BitVec.toNat_and, BitVec.toNat_ofInt, BitVec.toNat_ofInt, IntKind.wrap_i64]
 have e1 : ((m : Int) % ((2 ^ 64 : Nat) : Int)).toNat = m := by omega
 have e2 : (((m - 1 : Nat) : Int) % ((2 ^ 64 : Nat) : Int)).toNat = m - 1 := by omega
 rw [e1, e2]
 omega
theorem walkE_cons {a b p x y : Int} {ps : List Int} {s l : Nat} (h : l ≠ 0) : walkE a b (p :: ps) x y s l = if rightW s l then walkE a b ps (pairV p x) (pairV p y) (upA true s l).1 (upA true s l).2 else walkE a b ps x (pairV y p) (upA false s l).1 (upA false s l).2 := by
 rw [walkE, if_neg h]
 rfl
theorem ones_up {s l : Nat} (h : s % 2 = 1) : ones s l = ones (upA false s l).1 (upA false s l).2 := by rw [ones_yes h]; rfl
set_option maxHeartbeats 4000000 in
theorem textended_any (ra rb : Int) (hra : 0 ≤ ra ∧ ra ≤ 18446744073709551615) (hrb : 0 ≤ rb ∧ rb ≤ 18446744073709551615) (m n : Nat) (h1 : 1 ≤ m) (h2 : m ≤ n) (hn : n ≤ 4096) (pa : Option Addr) (pn pc : Nat) (ps : List Int) (w : World) (h : Sl .u64 w pa pn pc ps) (hpl : pn ≤ 100) (ht : TB w) :
  Calls Tryz.prog 24 #[.int .u64 ra, .int .u64 rb, .int .i64 m, .int .i64 n, .slice pa pn pc] w fun e w' => e = .returned (.bool (exV ra rb m n ps)) ∧ Ext w w' := by
 have HP := Lib.hid h
 have bd := h.bd
 have hlen := h.hlen
 have g1 : ¬ ((n : Int) < 1) := by omega
 have g2 : ¬ ((4096 : Int) < (n : Int)) := by omega
 have g3 : ¬ ((m : Int) < 1) := by omega
 have g4 : ¬ ((n : Int) < (m : Int)) := by omega
 have g5 : decide ((n : Int) < 1) = false := decide_eq_false g1
 have g6 : decide ((4096 : Int) < (n : Int)) = false := decide_eq_false g2
 have g7 : decide ((m : Int) < 1) = false := decide_eq_false g3
 have g8 : decide ((n : Int) < (m : Int)) = false := decide_eq_false g4
 have g9 : ¬ (n < m) := by omega
 have g10 : decide (n < m) = false := decide_eq_false g9
 by_cases hmn : m = n
 ·subst hmn
  have HV : Hid (exV ra rb m m ps = (decide (pn = 0) && decide (ra = rb))) := Lib.hid (by unfold exV; rw [if_pos rfl, hlen])
  clear h hlen
  by_cases h0 : pn = 0
  ·subst h0
   go_enter Tryz.func24, Tryz.ntmps24
   go_wp2_with fail
   go_step3
   go_wp2_with fail
   rw [Exit.noGoto_ret]
   go_ret
   rw [HV.out]
   exact ⟨ret_bool (by rw [Bool.eq_iff_iff]; simp), Ext.refl w⟩
  ·have h3 : ((pn : Int) == 0) = false := by simp; omega
   go_enter Tryz.func24, Tryz.ntmps24
   go_wp2_with fail
   go_step3
   go_wp2_with fail
   rw [Exit.noGoto_ret]
   go_ret
   rw [HV.out]
   exact ⟨ret_bool (by simp [h0]), Ext.refl w⟩
 ·have h3 : ((m : Int) == (n : Int)) = false := by simp; omega
  have h4 : ¬ ((m : Int) = (n : Int)) := by omega
  have HV : Hid (exV ra rb m n ps = startE ra rb (if powB m then ra :: ps else ps) (m - 1) (n - 1)) := Lib.hid (by unfold exV; rw [if_neg hmn])
  have k1 : IntKind.i64.wrap ((m : Int) - 1) = ((m - 1 : Nat) : Int) := by rw [IntKind.wrap_i64]; omega
  have k2 : IntKind.i64.wrap ((n : Int) - 1) = ((n - 1 : Nat) : Int) := by rw [IntKind.wrap_i64]; omega
  have k3 : IntKind.u64.wrap ((n - 1 : Nat) : Int) = ((n - 1 : Nat) : Int) := by rw [IntKind.wrap_u64]; omega
  have k4 : IntKind.u64.wrap ((m - 1 : Nat) : Int) = ((m - 1 : Nat) : Int) := by rw [IntKind.wrap_u64]; omega
  have k5 := and_pow h1 (by omega)
  obtain ⟨L, hL⟩ : ∃ L, (if powB m then ra :: ps else ps) = L := ⟨_, rfl⟩
  rw [hL] at HV
  have HLL := Lib.hid hL
  have HLN := Lib.hid hlen
  clear h hL hlen hmn
  have HT := Lib.hid ht
  clear ht
  go_enter Tryz.func24, Tryz.ntmps24
  go_wp2_with fail
  go_step3
  have k6 : ((((m &&& (m - 1) : Nat) : Int)) == 0) = powB m := by unfold powB; rw [Bool.eq_iff_iff]; simp
  go_upto_if 46 with fail
  clear g1 g2 g3 g4 g5 g6 g7 g8 g9 g10 h3 h4 k5 k6
  go_cut [4] (fun s4 wx => ∃ qa qn qc, s4 = .slice qa qn qc ∧ Hid (Sl .u64 wx qa qn qc L) ∧ Hid (qn ≤ 101) ∧ Hid (Ext w wx))
  case first =>
   cases hpw : powB m with
   | true =>
    have HLX : Hid (L = ra :: ps) := Lib.hid (by rw [← HLL.out, hpw]; rfl)
    clear hpw
    have HCL := Lib.hid (cloneU_any pa pn pc ps w (rw_u HP.out (by omega)) (by omega))
    go_wp2_with (go_at_call 60; refine HCL.out.mono ?_; rintro e w1 ⟨a1, c1, rfl, ho1, hx1⟩; refine hold ?_)
    refine held ?_
    have hv := Bk.new w1 25 #[.int .u64 ra]
    have hx2 : Ext w1 (w1.alloc (.cells #[.int .u64 ra] 25)) := (Ext.refl w1).alloc _
    have hu : U64s ps := HP.out.wf
    have hra2 : Cel.ok ra := by show (Lit.int .u64 ra).wf = true; simp [Lit.wf, IntKind.min, IntKind.max, IntKind.bits, IntKind.signed]; omega
    have HIN := Lib.hid (uinsert_any a1 pn c1 ps 0 ra w1.heap.size w.heap.size _ (ho1.ext hx2) hu (Nat.le_trans hx1.sz hx2.sz) (by omega) (by omega) hra2 hv (fun h0 g hg e => by
     rcases ho1.headAt with ⟨h5, _, _⟩ | ⟨g', h5, _, h6⟩
     ·rw [h5] at hg; cases hg
     ·rw [h5] at hg; simp only [Option.some.injEq, Addr.mk.injEq, and_true] at hg; omega))
    go_wp2_with (go_at_call 59; refine HIN.out.mono ?_; rintro e w3 ⟨g, c3, rfl, ho3, hB3⟩; refine hold ?_)
    refine held ?_
    have hE3 : Ext w w3 := Below.trans (hx1.trans hx2) hB3
    have hs3 : Sl .u64 w3 (some ⟨g, 0, none⟩) (pn + 1) c3 L := by
     rw [HLX.out]
     exact (owr_u.1 ho3).sl (fun x hx => by
      rcases List.mem_cons.1 (by simpa using hx) with h | h
      ·subst h; exact hra2
      ·exact hu x h)
    go_wp2_with fail
    go_meet
    exact ⟨_, _, _, rfl, Lib.hid hs3, Lib.hid (by omega), Lib.hid hE3⟩
   | false =>
    have HLX : Hid (L = ps) := Lib.hid (by rw [← HLL.out, hpw]; rfl)
    clear hpw
    go_wp2_with fail
    go_meet
    exact ⟨_, _, _, rfl, Lib.hid (by rw [HLX.out]; exact HP.out), Lib.hid (by omega), Lib.hid (Ext.refl w)⟩
  case rest =>
   obtain ⟨qa, qn, qc, rfl, HQ, HQN, HE⟩ := hcut
   have bq := HQ.out.bd
   clear bd HP HLL HLN
   by_cases hq0 : qn = 0
   ·subst hq0
    have HF : Hid (exV ra rb m n ps = false) := Lib.hid (by rw [HV.out, List.eq_nil_of_length_eq_zero HQ.out.hlen]; rfl)
    go_wp2_with fail
    rw [Exit.noGoto_ret]
    go_ret
    rw [HF.out]
    exact ⟨rfl, HE.out⟩
   ·have hq1 : ((qn : Int) == 0) = false := by simp; omega
    have hq2 : ¬ ((qn : Int) = 0) := by omega
    have hB := Bk.new wc 128 #[.int .u64 (m - 1 : Nat), .int .u64 (n - 1 : Nat)]
    have hx : Ext wc (wc.alloc (.cells #[.int .u64 (m - 1 : Nat), .int .u64 (n - 1 : Nat)] 128)) := (Ext.refl wc).alloc _
    have HL0 : Hid (0 < qn) := Lib.hid (by omega)
    go_upto_region 9 with fail
    have HMB : Hid (m - 1 ≤ 4096 ∧ n - 1 ≤ 4096) := Lib.hid (by omega)
    clear hq1 hq2 hq0
    go_wp2_with fail
    generalize wc.alloc (.cells #[.int .u64 (m - 1 : Nat), .int .u64 (n - 1 : Nat)] 128) = V at *
    obtain ⟨b, hb⟩ : ∃ b, wc.heap.size = b := ⟨_, rfl⟩
    have HB : Hid (wc.heap.size ≤ b) := Lib.hid (by omega)
    rw [hb] at hB ⊢
    clear hb
    go_loopw [] (fun wr => ∃ (s l : Nat), Hid (s ≤ 4096 ∧ l ≤ 4096) ∧ Wk wr b s l ∧ Hid (ones (m - 1) (n - 1) = ones s l) ∧ Ext wc wr) (fun wr => cellN wr b + 0)
    case atStart => exact ⟨m - 1, n - 1, HMB, hB, Lib.hid rfl, hx⟩
    case round =>
     obtain ⟨s, l, HA, hw, HO, hE⟩ := hrel
     have c0 := hw.c 0 _ rfl
     have e1 := and_oneU HA.out.1
     by_cases h1 : s % 2 = 1
     ·have HUP := Lib.hid (wup_any b s l false wc.heap.size wr HB.out hw HA.out)
      have HOU := Lib.hid (HO.out.trans (ones_up h1))
      have HM : Hid (cellN wr b = s ∧ s ≠ 0) := Lib.hid ⟨hw.cellN, by omega⟩
      go_upto_region 11 with fail
      clear c0 e1 h1
      go_wp2_with (go_at_call 61; refine HUP.out.mono ?_; rintro e w3 ⟨⟨v, rfl⟩, hw3, hB3⟩; refine hold ?_)
      refine held ?_
      have hE3 : Ext wc w3 := Below.trans hE hB3
      clear hB3 hE
      go_wp2_with fail
      refine ⟨⟨(upA false s l).1, (upA false s l).2, Lib.hid (upA_bd false HA.out), hw3, HOU, hE3⟩, ?_⟩
      rw [hw3.cellN, HM.out.1]
      have := HM.out.2
      simp only [upA, Bool.false_eq_true, if_false]
      omega
     ·have h0 : s % 2 = 0 := by omega
      have HON : Hid (ones (m - 1) (n - 1) = (s, l)) := Lib.hid (HO.out.trans (ones_no h1))
      obtain ⟨x1, o1, rfl, hc⟩ := HQ.out.at HL0.out
      have hQw := HQ.out
      have HSL := Lib.hid (HQ.out.from (m := 1) HL0.out)
      have HLN := Lib.hid HQ.out.hlen
      have hd0 := hc 0 HL0.out
      have HX0 := Lib.hid (wf_rng (HQ.out.wfAt HL0.out))
      obtain ⟨z, hz⟩ : ∃ z, nth L 0 = z := ⟨_, rfl⟩
      have HLD : Hid (L = z :: L.drop 1) := Lib.hid (by
       have hl := HLN.out
       match L, hl with
       | y :: ys, _ => rw [← hz]; rfl
       | [], hl => simp at hl; have := HL0.out; omega)
      rw [hz] at hd0 HX0
      clear hz hc hQw
      simp only [Nat.add_zero] at hd0
      have hd1 := hE.cell hd0
      clear hd0
      rw [HLD.out] at HV
      have HV2 : Hid (exV ra rb m n ps = walkE ra rb (L.drop 1) z z s l) := Lib.hid (by rw [HV.out, startE_cons HON.out])
      have HLR : Hid ((L.drop 1).length = qn - 1) := Lib.hid (by rw [List.length_drop, HLN.out])
      have HZ := HX0
      obtain ⟨rn, hrn⟩ : ∃ rn, qn - 1 = rn := ⟨_, rfl⟩
      have HRN : Hid (qn - 1 = rn) := Lib.hid hrn
      rw [hrn] at HSL HLR
      have k7 : (qn : Int) - 1 = (rn : Int) := by have := HL0.out; omega
      have k8 : ¬ ((qn : Int) < 1) := by have := HL0.out; omega
      have k9 : qn - 1 = rn := hrn
      have k10 : ¬ (qn < 1) := by have := HL0.out; omega
      have kb : rn ≤ 101 := by have := HQN.out; omega
      generalize L.drop 1 = R at *
      clear HO HON HLD HV hrn
      go_upto_region 12 with fail
      clear c0 e1 h1 h0
      have hg := @grow_cell
      have hbx := lt_of_cell hd1
      simp only at hbx
      refine region_ext (by kernel_rfl) (by kernel_rfl) ?_
      repeat (go_big_quiet_step (fail))
      refine wpQuiet_nil ?_
      intro V2 hE2
      replace hE := hE.trans hE2
      replace hw := Wk.ext hw hE2
      clear hg hbx hd1 hE2
      go_wp2_with fail
      by_cases hqc : qc = 1
      ·rw [show subA (some ⟨x1, o1, none⟩) qc 1 = some ⟨x1, o1, none⟩ by simp [subA, hqc, Addr.add]] at HSL
       go_step3
       go_wp2_with fail
       clear k7 k8 k10
       go_loopw [12, 13, 80] (fun xx yy ix wr => ∃ (k s l : Nat) (x y : Int), k ≤ rn ∧ xx = .int .u64 x ∧ yy = .int .u64 y ∧ ix = .int .i64 k ∧ Hid (s ≤ 4096 ∧ l ≤ 4096) ∧ Hid (0 ≤ x ∧ x ≤ 18446744073709551615) ∧ Hid (0 ≤ y ∧ y ≤ 18446744073709551615) ∧ Hid (exV ra rb m n ps = walkE ra rb (R.drop k) x y s l) ∧ Wk wr b s l ∧ Ext wc wr) (fun _ _ ix _ => rn - (intOf ix).toNat)
       case atStart => exact ⟨0, s, l, z, z, by omega, rfl, rfl, rfl, HA, HX0, HX0, HV2, hw, hE⟩
       case round =>
        clear HA hw hE HV2
        obtain ⟨k, s, l, x, y, hk, rfl, rfl, rfl, HA, HX, HY, HW, hw, hE⟩ := hrel
        by_cases hlt : k < rn
        ·exfalso
         have := HRN.out
         omega
        ·obtain rfl : rn = k := by omega
         have c1 := hw.c 1 _ rfl
         rw [List.drop_eq_nil_of_le (by rw [HLR.out]; omega)] at HW
         by_cases hl0 : l = 0
         ·subst hl0
          by_cases hxa : x = ra
          ·have HF : Hid (exV ra rb m n ps = decide (y = rb)) := Lib.hid (by rw [HW.out, walkE]; simp [hxa])
           have h5 : (x == ra) = true := by simp [hxa]
           clear hxa
           go_wp2_with fail
           rw [Exit.noGoto_ret]
           go_ret
           rw [HF.out]
           exact ⟨ret_bool (by rw [Bool.eq_iff_iff]; simp), HE.out.trans hE⟩
          ·have HF : Hid (exV ra rb m n ps = false) := Lib.hid (by rw [HW.out, walkE]; simp [hxa])
           have h5 : (x == ra) = false := by simp [hxa]
           go_wp2_with fail
           rw [Exit.noGoto_ret]
           go_ret
           rw [HF.out]
           exact ⟨rfl, HE.out.trans hE⟩
         ·have h3 : ((l : Int) == 0) = false := by simp; omega
          have HF : Hid (exV ra rb m n ps = false) := Lib.hid (by rw [HW.out, walkE]; simp [hl0])
          go_wp2_with fail
          rw [Exit.noGoto_ret]
          go_ret
          rw [HF.out]
          exact ⟨rfl, HE.out.trans hE⟩
      ·rw [show subA (some ⟨x1, o1, none⟩) qc 1 = some ⟨x1, o1 + 1, none⟩ by simp [subA, hqc, Addr.add]] at HSL
       go_step3
       go_wp2_with fail
       clear k7 k8 k10
       go_loopw [12, 13, 80] (fun xx yy ix wr => ∃ (k s l : Nat) (x y : Int), k ≤ rn ∧ xx = .int .u64 x ∧ yy = .int .u64 y ∧ ix = .int .i64 k ∧ Hid (s ≤ 4096 ∧ l ≤ 4096) ∧ Hid (0 ≤ x ∧ x ≤ 18446744073709551615) ∧ Hid (0 ≤ y ∧ y ≤ 18446744073709551615) ∧ Hid (exV ra rb m n ps = walkE ra rb (R.drop k) x y s l) ∧ Wk wr b s l ∧ Ext wc wr) (fun _ _ ix _ => rn - (intOf ix).toNat)
       case atStart => exact ⟨0, s, l, z, z, by omega, rfl, rfl, rfl, HA, HX0, HX0, HV2, hw, hE⟩
       case round =>
        clear HA hw hE HV2
        obtain ⟨k, s, l, x, y, hk, rfl, rfl, rfl, HA, HX, HY, HW, hw, hE⟩ := hrel
        by_cases hlt : k < rn
        ·obtain ⟨x9, o9, e9, hc⟩ := HSL.out.at (by omega)
         obtain ⟨rfl, rfl⟩ : x1 = x9 ∧ o1 + 1 = o9 := by simp only [Option.some.injEq, Addr.mk.injEq, and_true] at e9; exact e9
         clear e9
         have d0 := hE.cell (hc k hlt)
         have HPW := Lib.hid (wf_rng (HSL.out.wfAt hlt))
         have HDK : Hid (R.drop k = nth R k :: R.drop (k + 1)) := Lib.hid (by rw [List.drop_eq_getElem_cons (by rw [HLR.out]; exact hlt)]; simp [nth, List.getD_eq_getElem?_getD, HLR.out, hlt])
         clear hc
         rw [HDK.out] at HW
         obtain ⟨p, hp⟩ : ∃ p, nth R k = p := ⟨_, rfl⟩
         rw [hp] at d0 HPW HW
         clear hp HDK
         have c1 := hw.c 1 _ rfl
         by_cases hl0 : l = 0
         ·subst hl0
          have HF : Hid (exV ra rb m n ps = false) := Lib.hid (by rw [HW.out, walkE, if_pos rfl])
          go_wp2_with fail
          rw [Exit.noGoto_ret]
          go_ret
          rw [HF.out]
          exact ⟨rfl, HE.out.trans hE⟩
         ·have h3 : ((l : Int) == 0) = false := by simp; omega
          have h4 : ¬ ((l : Int) = 0) := by omega
          have HL0 := Lib.hid hl0
          have HWR := Lib.hid (wright_any b s l wr hw HA.out)
          rw [walkE_cons hl0] at HW
          cases hrw : rightW s l with
          | true =>
           rw [hrw] at HWR HW
           rw [if_pos rfl] at HW
           have HUP := Lib.hid (fun (W : World) (hx : Ext wr W) => wup_any b s l true wc.heap.size W HB.out (hw.ext hx) HA.out)
           have HPX := Lib.hid (fun W => dpair_any p x HPW.out HX.out W)
           have HPY := Lib.hid (fun W => dpair_any p y HPW.out HY.out W)
           clear hl0 hrw
           go_upto_region 18 with fail
           clear d0 c1 h3 h4
           go_wp2_with (go_at_call 62; refine HWR.out.mono ?_; rintro e w1 ⟨rfl, hx1⟩; refine hold ?_)
           refine held ?_
           go_wp2_with (go_at_call 63; refine (HPX.out _).mono ?_; rintro e w2 ⟨rfl, hx2⟩; refine hold ?_)
           refine held ?_
           go_wp2_with (go_at_call 63; refine (HPY.out _).mono ?_; rintro e w3 ⟨rfl, hx3⟩; refine hold ?_)
           refine held ?_
           go_wp2_with (go_at_call 61; refine (HUP.out _ ((hx1.trans hx2).trans hx3)).mono ?_; rintro e w4 ⟨⟨v, rfl⟩, hw4, hB4⟩; refine hold ?_)
           refine held ?_
           have hE4 : Ext wc w4 := Below.trans (((hE.trans hx1).trans hx2).trans hx3) hB4
           clear hB4 hx1 hx2 hx3 hw hE
           go_wp2_with fail
           refine ⟨⟨k + 1, (upA true s l).1, (upA true s l).2, pairV p x, pairV p y, by omega, rfl, rfl, by go_num, Lib.hid (upA_bd true HA.out), Lib.hid (pair_rng _ _), Lib.hid (pair_rng _ _), HW, hw4, hE4⟩, by simp only [intOf]; omega⟩
          | false =>
           rw [hrw] at HWR HW
           rw [if_neg (by simp)] at HW
           have HUP := Lib.hid (fun (W : World) (hx : Ext wr W) => wup_any b s l false wc.heap.size W HB.out (hw.ext hx) HA.out)
           have HYP := Lib.hid (fun W => dpair_any y p HY.out HPW.out W)
           clear hl0 hrw
           go_upto_region 18 with fail
           clear d0 c1 h3 h4
           go_wp2_with (go_at_call 62; refine HWR.out.mono ?_; rintro e w1 ⟨rfl, hx1⟩; refine hold ?_)
           refine held ?_
           go_wp2_with (go_at_call 63; refine (HYP.out _).mono ?_; rintro e w2 ⟨rfl, hx2⟩; refine hold ?_)
           refine held ?_
           go_wp2_with (go_at_call 61; refine (HUP.out _ (hx1.trans hx2)).mono ?_; rintro e w3 ⟨⟨v, rfl⟩, hw3, hB3⟩; refine hold ?_)
           refine held ?_
           have hE3 : Ext wc w3 := Below.trans ((hE.trans hx1).trans hx2) hB3
           clear hB3 hx1 hx2 hw hE
           go_wp2_with fail
           refine ⟨⟨k + 1, (upA false s l).1, (upA false s l).2, x, pairV y p, by omega, rfl, rfl, by go_num, Lib.hid (upA_bd false HA.out), HX, Lib.hid (pair_rng _ _), HW, hw3, hE3⟩, by simp only [intOf]; omega⟩
        ·obtain rfl : rn = k := by omega
         have c1 := hw.c 1 _ rfl
         rw [List.drop_eq_nil_of_le (by rw [HLR.out]; omega)] at HW
         by_cases hl0 : l = 0
         ·subst hl0
          by_cases hxa : x = ra
          ·have HF : Hid (exV ra rb m n ps = decide (y = rb)) := Lib.hid (by rw [HW.out, walkE]; simp [hxa])
           have h5 : (x == ra) = true := by simp [hxa]
           clear hxa
           go_wp2_with fail
           rw [Exit.noGoto_ret]
           go_ret
           rw [HF.out]
           exact ⟨ret_bool (by rw [Bool.eq_iff_iff]; simp), HE.out.trans hE⟩
          ·have HF : Hid (exV ra rb m n ps = false) := Lib.hid (by rw [HW.out, walkE]; simp [hxa])
           have h5 : (x == ra) = false := by simp [hxa]
           go_wp2_with fail
           rw [Exit.noGoto_ret]
           go_ret
           rw [HF.out]
           exact ⟨rfl, HE.out.trans hE⟩
         ·have h3 : ((l : Int) == 0) = false := by simp; omega
          have HF : Hid (exV ra rb m n ps = false) := Lib.hid (by rw [HW.out, walkE]; simp [hl0])
          go_wp2_with fail
          rw [Exit.noGoto_ret]
          go_ret
          rw [HF.out]
          exact ⟨rfl, HE.out.trans hE⟩
end Go.Proofs.YtacicanjmleikaaGreatDoor
