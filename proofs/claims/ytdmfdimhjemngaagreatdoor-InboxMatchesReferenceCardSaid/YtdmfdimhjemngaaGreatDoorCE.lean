
import Derived.Test.YtdmfdimhjemngaaGreatDoorCD
import Derived.Laws.StructEq
import Derived.Laws.Tables
import Derived.Laws.Cover2
import Derived.Test.YtdmfdimhjemngaaGreatDoorLibB
/-
  Equality of replies, rounds and chains, and whether rounds are few, by the reference; walked.
-/
namespace Go.Proofs.YtdmfdimhjemngaaGreatDoor
open Go.RowKit Go.Sort Go.Shelf
set_option linter.unusedSimpArgs false
set_option linter.unusedVariables false
set_option maxRecDepth 100000

theorem eqRep12 (a h r n lo hi k t c s a' h' r' n' lo' hi' k' t' c' s' : Int) (w : World) : (Op.equalIn 10000 60 (.agg #[.int .i64 a, .int .i64 h, .int .i64 r, .int .u64 n, .int .i64 lo, .int .i64 hi, .int .i64 k, .int .i64 t, .int .i64 c, .int .i64 s]) (.agg #[.int .i64 a', .int .i64 h', .int .i64 r', .int .u64 n', .int .i64 lo', .int .i64 hi', .int .i64 k', .int .i64 t', .int .i64 c', .int .i64 s'])).run Tryz.prog w = .ok (decide ((⟨a, h, r, n, lo, hi, k, t, c, s⟩ : Rp) = ⟨a', h', r', n', lo', hi', k', t', c', s'⟩)) w := by
  have u3 := Tryz.underlying3
  have a3 := Tryz.isAgg3
  have z3 := Tryz.sizeOf3
  have u4 := Tryz.underlying26
  have a4 := Tryz.isAgg26
  have z4 := Tryz.sizeOf26
  have u5 := Tryz.isAgg56
  have z5 := Tryz.sizeOf56
  have u6 := Tryz.isAgg58
  have z6 := Tryz.sizeOf58
  have hS : Tryz.prog.underlying 60 = some (.struct (Tryz.prog.fieldsOf 60)) := by kernel_rfl
  have hp : Tryz.prog.stoodInHeld 60 = false := by kernel_rfl
  have hS5 : Tryz.prog.underlying 56 = some (.struct (Tryz.prog.fieldsOf 56)) := by kernel_rfl
  have hp5 : Tryz.prog.stoodInHeld 56 = false := by kernel_rfl
  have hS6 : Tryz.prog.underlying 58 = some (.struct (Tryz.prog.fieldsOf 58)) := by kernel_rfl
  have hp6 : Tryz.prog.stoodInHeld 58 = false := by kernel_rfl
  have e5 : ∀ (x y x' y' : Int) (w : World), (Op.equalIn 9999 56 (.agg #[.int .i64 x, .int .i64 y]) (.agg #[.int .i64 x', .int .i64 y'])).run Tryz.prog w = .ok (decide (x = x' ∧ y = y')) w := by
    intro x y x' y' w
    rw [show (9999 : Nat) = 9998 + 1 from rfl, run_equalIn_agg w 9998 56 _ _ hS5 hp5]
    simp only [Program.fieldsOf, Tryz.underlying56]
    go_simp
    by_cases h1 : x = x' <;> by_cases h2 : y = y' <;> simp [h1, h2]
  have e6 : ∀ (x y x' y' : Int) (w : World), (Op.equalIn 9999 58 (.agg #[.int .i64 x, .int .i64 y]) (.agg #[.int .i64 x', .int .i64 y'])).run Tryz.prog w = .ok (decide (x = x' ∧ y = y')) w := by
    intro x y x' y' w
    rw [show (9999 : Nat) = 9998 + 1 from rfl, run_equalIn_agg w 9998 58 _ _ hS6 hp6]
    simp only [Program.fieldsOf, Tryz.underlying58]
    go_simp
    by_cases h1 : x = x' <;> by_cases h2 : y = y' <;> simp [h1, h2]
  rw [show (10000 : Nat) = 9999 + 1 from rfl, run_equalIn_agg w 9999 60 _ _ hS hp]
  simp only [Program.fieldsOf, Tryz.underlying60]
  go_simp
  by_cases h0 : a = a'
  · by_cases h1 : h = h'
    · by_cases h2 : r = r'
      · by_cases h3 : n = n'
        · by_cases h4 : lo = lo'
          · by_cases h5 : hi = hi'
            · by_cases h6 : k = k'
              · by_cases h7 : t = t'
                · by_cases h8 : c = c'
                  · by_cases h9 : s = s'
                    · simp [h0, h1, h2, h3, h4, h5, h6, h7, h8, h9, e5, e6]
                    · simp [h0, h1, h2, h3, h4, h5, h6, h7, h8, h9, e5, e6]
                  · simp [h0, h1, h2, h3, h4, h5, h6, h7, h8, e5, e6]
                · simp [h0, h1, h2, h3, h4, h5, h6, h7, e5, e6]
              · simp [h0, h1, h2, h3, h4, h5, h6, e5, e6]
            · simp [h0, h1, h2, h3, h4, h5, e5, e6]
          · simp [h0, h1, h2, h3, h4, e5, e6]
        · simp [h0, h1, h2, h3, e5, e6]
      · simp [h0, h1, h2, e5, e6]
    · simp [h0, h1, e5, e6]
  · simp [h0, e5, e6]

theorem eqRp (x y : Rp) (w : World) : (Op.equalIn 10000 60 (.agg #[.int .i64 x.a, .int .i64 x.h, .int .i64 x.r, .int .u64 x.n, .int .i64 x.lo, .int .i64 x.hi, .int .i64 x.k, .int .i64 x.t, .int .i64 x.c, .int .i64 x.s]) (.agg #[.int .i64 y.a, .int .i64 y.h, .int .i64 y.r, .int .u64 y.n, .int .i64 y.lo, .int .i64 y.hi, .int .i64 y.k, .int .i64 y.t, .int .i64 y.c, .int .i64 y.s])).run Tryz.prog w = .ok (decide (x = y)) w := by
  rw [eqRep12]

theorem nthR_ext {xs ys : List Rp} (hl : xs.length = ys.length) (h : ∀ i, i < xs.length → nthR xs i = nthR ys i) : xs = ys := by
  refine List.ext_getElem hl fun i h1 h2 => ?_
  have := h i h1
  rwa [nthR_get h1, nthR_get h2] at this

set_option maxHeartbeats 1000000 in
theorem sameRd_any (a1 : Option Addr) (n1 c1 : Nat) (xs : List Rp) (a2 : Option Addr) (n2 c2 : Nat) (ys : List Rp) (w : World) (h1 : Rw w a1 n1 c1 xs) (h2 : Rw w a2 n2 c2 ys) :
    Calls Tryz.prog 17 #[.agg #[.slice a1 n1 c1], .agg #[.slice a2 n2 c2]] w fun e w' => e = .returned (.bool (decide (xs = ys))) ∧ Ext w w' := by
  have bd1 := h1.bd
  have bd2 := h2.bd
  have HL1 := Lib.hid h1.hlen
  have HL2 := Lib.hid h2.hlen
  have hE0 : Ext w ((w.alloc (.cells #[.slice a1 n1 c1] 45)).alloc (.cells #[.slice a2 n2 c2] 45)) := ((Ext.refl w).alloc _).alloc _
  by_cases hn : n1 = n2
  · subst hn
    have hq : ((n1 : Int) != (n1 : Int)) = false := by simp
    have b1 : Boxed ((w.alloc (.cells #[.slice a1 n1 c1] 45)).alloc (.cells #[.slice a2 n1 c2] 45)) w.heap.size 45 (.slice a1 n1 c1) := (Boxed.new w _ _).alloc _
    have b2 := Boxed.new (w.alloc (.cells #[.slice a1 n1 c1] 45)) 45 (.slice a2 n1 c2)
    simp only [World.size_alloc] at b2
    go_enter Tryz.func17, Tryz.ntmps17
    go_wp2_with fail
    go_loopw [5] (fun i wr => ∃ (k : Nat), k ≤ n1 ∧ i = .int .i64 k ∧ (∀ i, i < k → nthR xs i = nthR ys i) ∧ Ext w wr ∧ Boxed wr w.heap.size 45 (.slice a1 n1 c1) ∧ Boxed wr (w.heap.size + 1) 45 (.slice a2 n1 c2)) (fun i _ => n1 - (intOf i).toNat)
    case atStart => exact ⟨0, by omega, rfl, fun i hi => absurd hi (by omega), hE0, b1, b2⟩
    case round =>
      obtain ⟨k, hk, rfl, hok, hE, q1, q2⟩ := hrel
      have HOK := Lib.hid hok
      clear hok b1 b2
      have c1' := q1.cell
      have c2' := q2.cell
      have l1 := q1.lt
      have l2 := q2.lt
      by_cases hlt : k < n1
      · obtain ⟨x1, o1, rfl, hc1⟩ := h1.at (by omega)
        obtain ⟨x2, o2, rfl, hc2⟩ := h2.at (by omega)
        have hr1 := rangeAt_ext (hc1 k hlt) hE
        have hr2 := rangeAt_ext (hc2 k hlt) hE
        rw [sz_rp] at hr1 hr2
        generalize hx : nthR xs k = x at hr1
        generalize hy : nthR ys k = y at hr2
        have HX := Lib.hid hx
        have HY := Lib.hid hy
        clear hc1 hc2 hx hy
        obtain ⟨d0, d1, d2, d3, d4, d5, d6, d7, d8, d9⟩ := cells_rp hr1
        obtain ⟨e0, e1, e2, e3, e4, e5, e6, e7, e8, e9⟩ := cells_rp hr2
        have m1 := lt_of_cell d0
        have m2 := lt_of_cell e0
        simp only at m1 m2
        clear hr1 hr2
        have hg := @grow_cell
        have hqq := eqRp x y
        by_cases hxy : x = y
        · rw [decide_eq_true hxy] at hqq
          have HXY := Lib.hid hxy
          clear hxy
          go_upto_region 6 with fail
          refine region_ext (by kernel_rfl) (by kernel_rfl) ?_
          repeat (go_big_quiet_step (fail))
          refine wpQuiet_nil ?_
          intro w' hE'
          go_wp2_with fail
          refine ⟨⟨k + 1, by omega, by go_num, fun i hi => ?_, hE.trans hE', q1.kept (grownBy_of_ext hE') (by simp), q2.kept (grownBy_of_ext hE') (by simp)⟩, by simp [intOf]; omega⟩
          by_cases e : i = k
          · rw [e, HX.out, HY.out]; exact HXY.out
          · exact HOK.out i (by omega)
        · rw [decide_eq_false hxy] at hqq
          have HXY := Lib.hid hxy
          clear hxy
          go_upto_region 6 with fail
          refine region_ext (by kernel_rfl) (by kernel_rfl) ?_
          repeat (go_big_quiet_step (fail))
          refine wpQuiet_nil ?_
          intro w' hE'
          go_wp2_with fail
          go_ret
          refine ⟨ret_bool ?_, hE.trans hE'⟩
          rw [decide_eq_false]
          intro e
          exact HXY.out (by rw [← HX.out, ← HY.out, e])
      · obtain rfl : k = n1 := by omega
        go_wp2_with fail
        go_ret
        refine ⟨ret_bool ?_, hE⟩
        rw [decide_eq_true (nthR_ext (by rw [HL1.out, HL2.out]) (fun i hi => HOK.out i (by rw [← HL1.out]; exact hi)))]
  · have hq : ((n1 : Int) != (n2 : Int)) = true := by simp; omega
    have hv : decide (xs = ys) = false := decide_eq_false (fun e => hn (by rw [← HL1.out, ← HL2.out, e]))
    rw [hv]
    have HN := Lib.hid hn
    clear hv hn
    go_enter Tryz.func17, Tryz.ntmps17
    go_wp2_with fail
    go_ret
    exact ⟨rfl, hE0⟩
end Go.Proofs.YtdmfdimhjemngaaGreatDoor

/-
  Equality of chains, and whether rounds are few, by the reference; walked.
-/
namespace Go.Proofs.YtdmfdimhjemngaaGreatDoor
open Go.RowKit Go.Sort Go.Shelf
set_option linter.unusedSimpArgs false
set_option linter.unusedVariables false
set_option maxRecDepth 100000

theorem nthS_ext {xs ys : List (List Rp)} (hl : xs.length = ys.length) (h : ∀ i, i < xs.length → nthS xs i = nthS ys i) : xs = ys := by
  refine List.ext_getElem hl fun i h1 h2 => ?_
  have := h i h1
  rwa [nthS_get h1, nthS_get h2] at this

def sameC (h1 : Int) (xs : List (List Rp)) (h2 : Int) (ys : List (List Rp)) : Bool := h1 == h2 && decide (xs = ys)
theorem sameC_refl (h : Int) (xs : List (List Rp)) : sameC h xs h xs = true := by simp [sameC]

/-- How many replies rounds have. -/
def totR (rs : List (List Rp)) : Nat := (rs.map List.length).sum
theorem totR_take {rs : List (List Rp)} {k : Nat} (h : k < rs.length) : totR (rs.take (k + 1)) = totR (rs.take k) + (nthS rs k).length := by
  rw [take_nthS_succ h]; simp [totR]
theorem totR_mem {rs : List (List Rp)} {r : List Rp} (h : r ∈ rs) : r.length ≤ totR rs := by
  induction rs with
  | nil => cases h
  | cons x rs ih =>
    simp only [totR, List.map_cons, List.sum_cons] at ih ⊢
    rcases List.mem_cons.1 h with rfl | h
    · omega
    · have := ih h; omega
def fewB (rs : List (List Rp)) : Bool := decide (rs.length ≤ 60) && decide (totR rs ≤ 200)
theorem fewB_short {rs : List (List Rp)} (h : fewB rs = true) : Short rs ∧ rs.length ≤ 60 ∧ totR rs ≤ 200 := by
  simp only [fewB, Bool.and_eq_true, decide_eq_true_eq] at h
  exact ⟨fun r hr => by have := totR_mem hr; omega, h⟩

set_option maxHeartbeats 1000000 in
theorem few12_any (a : Option Addr) (n c : Nat) (rs : List (List Rp)) (w : World) (h1 : Rws w a n c rs) :
    Calls Tryz.prog 5 #[.slice a n c] w fun e w' => e = .returned (.bool (fewB rs)) ∧ w = w' := by
  have bd := h1.bd
  have HL := Lib.hid h1.hlen
  by_cases hn : n ≤ 60
  · have hq : decide ((n : Int) ≤ 60) = true := by simp; omega
    have hf : fewB rs = decide (totR rs ≤ 200) := by unfold fewB; rw [HL.out, decide_eq_true hn]; rfl
    rw [hf]
    clear hf
    go_enter Tryz.func5, Tryz.ntmps5
    go_wp2_with fail
    go_loop [3, 4] (fun t i => ∃ (k T : Nat), k ≤ n ∧ i = .int .i64 k ∧ t = .int .i64 T ∧ T = totR (rs.take k) ∧ T ≤ k * 17592186044416) (fun _ i => n - (intOf i).toNat)
    case atStart => exact ⟨0, 0, by omega, rfl, rfl, rfl, by omega⟩
    case round =>
      obtain ⟨k, T, hk, rfl, rfl, hT, hTl⟩ := hrel
      have HT := Lib.hid hT
      clear hT
      have hT2 : T ≤ 1055531162664960 := by omega
      by_cases hlt : k < n
      · obtain ⟨x1, o1, rfl, hc1⟩ := h1.at (by omega)
        obtain ⟨p1, l1, k1, g1, r1⟩ := hc1 k hlt
        have bl := r1.bd
        have ht2 := totR_take (rs := rs) (k := k) (by rw [HL.out]; exact hlt)
        rw [r1.hlen, ← HT.out] at ht2
        have HT2 := Lib.hid ht2
        clear hc1 ht2
        go_wp2_with fail
        refine ⟨⟨k + 1, T + l1, by omega, by go_num, by go_num, HT2.out.symm, by omega⟩, by simp [intOf]; omega⟩
      · obtain rfl : k = n := by omega
        have ht : T = totR rs := by rw [HT.out, List.take_of_length_le (Nat.le_of_eq HL.out)]
        have HT3 := Lib.hid ht
        clear ht
        go_wp2_with fail
        go_ret
        exact ⟨ret_bool (by rw [← HT3.out]; simp; omega), rfl⟩
  · have hq : decide ((n : Int) ≤ 60) = false := by simp; omega
    have hf : fewB rs = false := by unfold fewB; rw [HL.out, decide_eq_false hn]; rfl
    rw [hf]
    clear hf
    go_enter Tryz.func5, Tryz.ntmps5
    go_wp2_with fail
    go_loop [3, 4] (fun t i => ∃ (k : Nat) (T : Int), k ≤ n ∧ i = .int .i64 k ∧ t = .int .i64 T) (fun _ i => n - (intOf i).toNat)
    case atStart => exact ⟨0, 0, by omega, rfl, rfl⟩
    case round =>
      obtain ⟨k, T, hk, rfl, rfl⟩ := hrel
      by_cases hlt : k < n
      · obtain ⟨x1, o1, rfl, hc1⟩ := h1.at (by omega)
        obtain ⟨p1, l1, k1, g1, r1⟩ := hc1 k hlt
        clear hc1
        go_wp2_with fail
        refine ⟨⟨k + 1, _, by omega, by go_num, rfl⟩, by simp [intOf]; omega⟩
      · obtain rfl : k = n := by omega
        go_wp2_with fail
        go_ret
        exact ⟨rfl, rfl⟩
end Go.Proofs.YtdmfdimhjemngaaGreatDoor

/-
  The examples of chapter 12, plain; literals of replies and rounds.
-/
namespace Go.Proofs.YtdmfdimhjemngaaGreatDoor
open Go.RowKit Go.Sort Go.Shelf
set_option linter.unusedSimpArgs false
set_option linter.unusedVariables false
set_option maxRecDepth 100000

/-- One reply in a block of its own. -/
theorem Rw.lit1 {W : World} {b : Nat} {x : Rp} (h : RpB W b x) (hx : x.Ok) : Rw W (some ⟨b, 0, none⟩) 1 1 [x] := by
  refine ⟨rfl, Nat.le_refl _, by unfold maxLen; omega, by omega, fun i hi => ⟨b, 0, rfl, ?_⟩, fun y hy => by rw [List.mem_singleton] at hy; subst hy; exact hx⟩
  obtain rfl : i = 0 := by omega
  intro j v hv
  rw [cell_of_row W b _ _ _ _ h, ← Array.getElem?_toList, Nat.zero_mul, Nat.zero_add]
  exact hv
/-- Two rounds in a block of their own. -/
theorem Rws.lit2 {W : World} {g : Nat} {T : TypeId} {a1 a2 : Option Addr} {n1 c1 n2 c2 : Nat} {xs ys : List Rp} (h : W.heap[g]? = some (.cells #[.slice a1 n1 c1, .slice a2 n2 c2] T (0, 0))) (h1 : Rw W a1 n1 c1 xs) (h2 : Rw W a2 n2 c2 ys) : Rws W (some ⟨g, 0, none⟩) 2 2 [xs, ys] := by
  refine ⟨rfl, Nat.le_refl _, by unfold maxLen; omega, by omega, fun i hi => ?_⟩
  rcases i with _ | _ | i
  · exact ⟨g, 0, _, rfl, cell_of_block h 0 _ rfl, a1, n1, c1, rfl, h1⟩
  · exact ⟨g, 0, _, rfl, cell_of_block h 1 _ rfl, a2, n2, c2, rfl, h2⟩
  · omega

def exH : Int := beh 0 []
def exXn (n : Int) : Rp := ⟨2, 3, 2, n, 5, 9, 0, 0, 0, 0⟩
def exXn' (n : Int) : Rp := ⟨2, 3, 2, n, 10, 9, 0, 0, 0, 0⟩
def exYn (n : Int) : Rp := ⟨1, 3, 3, n, 0, 0, 0, 0, 0, 0⟩
def exX : Rp := exXn (nonF exH 3 2 2)
def exX' : Rp := exXn' (nonF exH 3 2 2)
def exY : Rp := exYn (nonF (headF [[], [exX]]) 3 3 1)
theorem exH_eq : fnv (be8 (0 : Int).toNat ++ txt [0]) = exH := rfl
theorem wf0 : (Lit.int .i64 0).wf = true := rfl
theorem u64_wf {n : Int} (h : 0 ≤ n ∧ n ≤ 18446744073709551615) : (Lit.int .u64 n).wf = true := by simp [Lit.wf, IntKind.min, IntKind.max, IntKind.signed, IntKind.bits]; omega
theorem exX_okn (n : Int) (hn : 0 ≤ n ∧ n ≤ 18446744073709551615) : (exXn n).Ok := ⟨rfl, rfl, rfl, u64_wf hn, rfl, rfl, rfl, rfl, rfl, rfl⟩
theorem exX_ok : exX.Ok := exX_okn _ (nonF_rng _ _ _ _)
theorem exX'_okn (n : Int) (hn : 0 ≤ n ∧ n ≤ 18446744073709551615) : (exXn' n).Ok := ⟨rfl, rfl, rfl, u64_wf hn, rfl, rfl, rfl, rfl, rfl, rfl⟩
theorem exX'_ok : exX'.Ok := exX'_okn _ (nonF_rng _ _ _ _)
theorem exY_okn (n : Int) (hn : 0 ≤ n ∧ n ≤ 18446744073709551615) : (exYn n).Ok := ⟨rfl, rfl, rfl, u64_wf hn, rfl, rfl, rfl, rfl, rfl, rfl⟩
theorem exY_ok : exY.Ok := exY_okn _ (nonF_rng _ _ _ _)
theorem ex_short : ∀ {rs : List (List Rp)}, (∀ r ∈ rs, r.length ≤ 1) → Short rs := fun h r hr => by have := h r hr; omega

theorem ex_fits0 (host number head : Int) : fitsF host number head [] = true := rfl
theorem ex_fits1 (host number head : Int) (x : Rp) : fitsF host number head [x] = rightB host number head x := by
  simp [fitsF, List.range_succ, stepB', riseB, nthR]
theorem ex_right : rightB 3 2 exH exX = true := by
  simp only [rightB, wfR, idsB, stampB, restB, inC, exX, exXn]
  simp
theorem ex_right' : rightB 3 2 exH exX' = false := by
  simp only [rightB, wfR, idsB, stampB, restB, inC, exX', exXn']
  simp
theorem ex_rightX (h : Int) : rightB 3 3 h exX = false := by
  simp only [rightB, wfR, idsB, stampB, restB, inC, exX, exXn]
  simp
theorem ex_rightY : rightB 3 3 (headF [[], [exX]]) exY = true := by
  simp only [rightB, wfR, idsB, stampB, restB, inC, exY, exYn]
  simp
theorem ex_v2 (x : Rp) : validF 3 [[], [x]] = rightB 3 2 exH x := by
  simp only [validF, validAt, List.length_cons, List.length_nil, List.range_succ, List.range_zero, List.nil_append, List.all_append, List.all_cons, List.all_nil, nthS, List.getD_eq_getElem?_getD]
  simp [ex_fits0, ex_fits1, headF, inC, exH]
theorem ex_valid : validF 3 [[], [exX]] = true := by rw [ex_v2, ex_right]
theorem ex_valid' : validF 3 [[], [exX']] = false := by rw [ex_v2, ex_right']
theorem ex_valid0 : validF 0 [] = false := rfl
theorem ex_v3 : validF 3 [[], [exX], [exY]] = true := by
  simp only [validF, validAt, List.length_cons, List.length_nil, List.range_succ, List.range_zero, List.nil_append, List.all_append, List.all_cons, List.all_nil, nthS, List.getD_eq_getElem?_getD]
  have h1 : beh 0 [] = exH := rfl
  have h2 := ex_rightY
  simp only [headF, List.foldl_cons, List.foldl_nil, h1] at h2
  simp [ex_fits0, ex_fits1, headF, inC, h1, ex_right, h2]
theorem ex_app : apdE 3 [[], [exX]] [exY] = 0 := by
  unfold apdE
  rw [ex_valid, if_pos rfl, if_neg (by simp), ex_fits1]
  rw [show ((([[], [exX]] : List (List Rp)).length : Int) + 1) = 3 by simp, ex_rightY]
  rfl
theorem ex_appH : apdH 3 [[], [exX]] [exY] = 3 := by unfold apdH; rw [ex_app]; rfl
theorem ex_appL : apdL 3 [[], [exX]] [exY] = [[], [exX], [exY]] := by unfold apdL; rw [ex_app]; rfl
theorem ex_appX : apdE 3 [[], [exX]] [exX] = 30 := by
  unfold apdE
  rw [ex_valid, if_pos rfl, if_neg (by simp), ex_fits1]
  rw [show ((([[], [exX]] : List (List Rp)).length : Int) + 1) = 3 by simp, ex_rightX]
  rfl
theorem ex_bef : befB 3 [[], [exX], [exY]] 2 2 3 1 = true ∧ befE 3 [[], [exX], [exY]] 2 2 3 1 = 0 := by
  have h1 : hasF [[], [exX], [exY]] 2 2 = true := by simp [hasF, inC, nthS, exX, exXn]
  have h2 : hasF [[], [exX], [exY]] 3 1 = true := by simp [hasF, inC, nthS, exY, exYn]
  constructor
  · simp [befB, befOk, ex_v3, h1, h2]
  · simp [befE, befOk, ex_v3, h1, h2]
theorem ex_befN : befE 3 [[], [exX], [exY]] 1 2 3 1 = 4 := by
  have h1 : hasF [[], [exX], [exY]] 1 2 = false := by simp [hasF, inC, nthS]
  simp [befE, befOk, ex_v3, h1]
end Go.Proofs.YtdmfdimhjemngaaGreatDoor

/-
  What is said of a chain with a further round while a region draws its order: the result, the variable that takes it up, the store.
-/
namespace Go.Proofs.YtdmfdimhjemngaaGreatDoor
open Go.RowKit Go.Sort Go.Shelf
set_option linter.unusedSimpArgs false
set_option linter.unusedVariables false
set_option maxRecDepth 100000

/-- A store into a chain's own block leaves rounds as they are. -/
theorem OwRs.setT {base : Nat} {w : World} {sa : Option Addr} {n c : Nat} {xss : List (List Rp)} (h : OwRs 45 base w sa n c xss) {b : Nat} {v0 v1 : Value} (hC : w.heap[b]? = some (.cells #[v0, v1] 24 (0, 0))) (j : Nat) (v : Value) :
    OwRs 45 base (w.setCell ⟨b, j, none⟩ v) sa n c xss := by
  obtain ⟨h0, vs, h1, h2⟩ := h
  refine ⟨h0, vs, World.ownsRow.kept (row := some b) h1 ⟨rfl, rfl, rfl, (KeepsOthers.setCell w _ _).size, fun k hk hkb => heap_setCell_other w ⟨b, j, none⟩ k v (fun e => hkb (by rw [e]))⟩ (.inr (fun e => ?_)), fun i hi => ?_⟩
  · rcases h1.2 with ⟨hv, _⟩ | ⟨g, cap, cur, hv, _, hg, _⟩
    · rw [hv] at e; cases e
    · rw [hv] at e
      simp only [Value.ownBlock, Option.some.injEq] at e
      rw [e, hC] at hg
      simp only [Option.some.injEq, Obj.cells.injEq] at hg
      exact absurd hg.2.1 (by decide)
  obtain ⟨a', n', c', h3, h4, h5⟩ := h2 i hi
  exact ⟨a', n', c', h3, h4.below (fun b' off ha hn => heap_setCell_other w ⟨b, j, none⟩ b' v (h4.not_ch hC b' off ha hn)), h5⟩

/-- A chain's rounds, as Append has made them. -/
def ChL (W : World) (a : Option Addr) (n c : Nat) (L : List (List Rp)) : Prop := OwRs 45 0 W a n c L ∧ n ≤ 1000
theorem ChL.ext {W W' : World} {a : Option Addr} {n c : Nat} {L : List (List Rp)} (h : ChL W a n c L) (he : Ext W W') : ChL W' a n c L := ⟨h.1.ext he, h.2⟩
theorem ChL.rws {W : World} {a : Option Addr} {n c : Nat} {L : List (List Rp)} (h : ChL W a n c L) : Rws W a n c L := h.1.rws (by have := h.2; omega)
theorem ChL.set {W : World} {a : Option Addr} {n c : Nat} {L : List (List Rp)} (h : ChL W a n c L) {b : Nat} {x : Int} {a1 : Option Addr} {n1 c1 : Nat} (hC : ChB W b x a1 n1 c1) (x' : Int) (a' : Option Addr) (n' c' : Nat) : ChL ((W.setCell ⟨b, 0, none⟩ (.int .i64 x')).setCell ⟨b, 1, none⟩ (.slice a' n' c')) a n c L :=
  ⟨(h.1.setT hC 0 (.int .i64 x')).setT (heap_setCell_same _ b 0 _ _ _ hC) 1 (.slice a' n' c'), h.2⟩

def AppV (H : Int) (L : List (List Rp)) (E : Int) (v : Value) (W : World) : Prop := ∃ a n c, v = .tuple #[.agg #[.int .i64 H, .slice a n c], .int .i64 E] ∧ ChL W a n c L
def RApp (H : Int) (L : List (List Rp)) (E : Int) : RelL Ext := ⟨none, fun _ v W => AppV H L E v W, fun _ v W W' ⟨a, n, c, h1, h2⟩ hE => ⟨a, n, c, h1, h2.ext hE⟩⟩
theorem AppV.of {w w' : World} {H : Int} {L : List (List Rp)} {E : Int} {a : Option Addr} {n c : Nat} (h : OwRs 45 w.heap.size w' a n c L) (hn : n ≤ 1000) : AppV H L E (.tuple #[.agg #[.int .i64 H, .slice a n c], .int .i64 E]) w' := ⟨a, n, c, rfl, h.mono (Nat.zero_le _), hn⟩
/-- The same as in slot j, a pair whose second part is E. -/
def RSame (j : Nat) (E : Int) : RelL Ext := ⟨some j, fun u v _ => v = u ∧ ∃ A, v = .tuple #[A, .int .i64 E], fun _ _ _ _ h _ => h⟩
def ChnV (H : Int) (L : List (List Rp)) (v : Value) (W : World) : Prop := ∃ a n c, v = .agg #[.int .i64 H, .slice a n c] ∧ ChL W a n c L
def RChn (H : Int) (L : List (List Rp)) : RelL Ext := ⟨none, fun _ v W => ChnV H L v W, fun _ v W W' ⟨a, n, c, h1, h2⟩ hE => ⟨a, n, c, h1, h2.ext hE⟩⟩
/-- A variable of the call's own that holds a chain. -/
def VarV (B : Nat) (v : Value) (W : World) : Prop := ∃ b x a n c, v = .pointer (some ⟨b, 0, none⟩) ∧ B ≤ b ∧ ChB W b x a n c
def RVar (B : Nat) : RelL Ext := ⟨none, fun _ v W => VarV B v W, fun _ v W W' ⟨b, x, a, n, c, h1, h2, h3⟩ hE => ⟨b, x, a, n, c, h1, h2, h3.ext hE⟩⟩
/-- The variable in slot j holds this chain. -/
def StoV (B : Nat) (H : Int) (L : List (List Rp)) (u : Value) (W : World) : Prop := ∃ b a n c, u = .pointer (some ⟨b, 0, none⟩) ∧ B ≤ b ∧ ChB W b H a n c ∧ ChL W a n c L
def RSto (j B : Nat) (H : Int) (L : List (List Rp)) : RelL Ext := ⟨some j, fun u _ W => StoV B H L u W, fun u v W W' ⟨b, a, n, c, h1, h2, h3, h4⟩ hE => ⟨b, a, n, c, h1, h2, h3.ext hE, h4.ext hE⟩⟩
end Go.Proofs.YtdmfdimhjemngaaGreatDoor
