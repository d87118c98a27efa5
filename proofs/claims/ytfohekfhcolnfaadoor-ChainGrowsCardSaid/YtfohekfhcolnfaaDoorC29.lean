/-
  What ChainGrows rests on, in plain words: a valid chain without its last round, with a further one; a round with a reply of each of some authorities. And rows of replies beside a variable that holds a round.
-/
import Derived.Test.YtfohekfhcolnfaaDoorC28
import Derived.Test.YtfohekfhcolnfaaDoorLib15
namespace Go.Proofs.YtfohekfhcolnfaaDoor
open Go.RowKit Go.Sort Go.Shelf
set_option linter.unusedSimpArgs false
set_option linter.unusedVariables false
set_option maxRecDepth 100000

theorem validF_take {host : Int} {rs : List (List Rp)} (hv : validF host rs = true) (N : Nat) : validF host (rs.take N) = true := by
  have h0 := hv
  unfold validF at hv ⊢
  simp only [Bool.and_eq_true, decide_eq_true_eq, all_range] at hv ⊢
  refine ⟨hv.1, by rw [List.length_take]; omega, fun i hi => ?_⟩
  rw [List.length_take] at hi
  have := hv.2.2 i (by omega)
  unfold validAt at this ⊢
  rw [List.take_take, show min i N = i by omega, nthS_take (by omega)]
  exact this
theorem validF_app {host : Int} {rs : List (List Rp)} {r : List Rp} (hv : validF host rs = true) (hl : rs.length < 200) (hf : fitsF host ((rs.length : Int) + 1) (headF rs) r = true) : validF host (rs ++ [r]) = true := by
  unfold validF at hv ⊢
  simp only [Bool.and_eq_true, decide_eq_true_eq, all_range] at hv ⊢
  refine ⟨hv.1, by rw [List.length_append]; simp; omega, fun i hi => ?_⟩
  rw [List.length_append] at hi
  simp only [List.length_cons, List.length_nil] at hi
  by_cases hlt : i < rs.length
  · have := hv.2.2 i hlt
    unfold validAt at this ⊢
    rw [List.take_append_of_le_length (by omega), nthS_app_left hlt]
    exact this
  · obtain rfl : i = rs.length := by omega
    unfold validAt
    rw [List.take_left, nthS_app_right (Nat.le_refl _), Nat.sub_self]
    exact hf
theorem apd_ok {host : Int} {rs : List (List Rp)} {r : List Rp} (hv : validF host rs = true) (hl : rs.length < 200) (hf : fitsF host ((rs.length : Int) + 1) (headF rs) r = true) : apdH host rs r = host ∧ apdL host rs r = rs ++ [r] ∧ apdE host rs r = 0 := by
  have h : apdE host rs r = 0 := by
    unfold apdE
    rw [if_pos hv, if_neg (by omega), if_pos hf]
  unfold apdH apdL
  rw [if_pos h, if_pos h]
  exact ⟨rfl, rfl, h⟩
theorem apd_back {host : Int} {rs : List (List Rp)} (hv : validF host rs = true) {k : Nat} (hl : rs.length = k + 1) : apdH host (rs.take k) (nthS rs k) = host ∧ apdL host (rs.take k) (nthS rs k) = rs ∧ apdE host (rs.take k) (nthS rs k) = 0 := by
  have hlen : (rs.take k).length = k := by rw [List.length_take]; omega
  have h200 := validF_len hv
  have hf := valid_fits hv (k := k) (by omega)
  have := apd_ok (r := nthS rs k) (validF_take hv k) (by omega) (by rw [hlen]; exact hf)
  rw [← take_nthS_succ (by omega), List.take_of_length_le (show rs.length ≤ k + 1 by omega)] at this
  exact this
theorem fitsF_nil (host nu he : Int) : fitsF host nu he [] = true := rfl
theorem validF_host {host : Int} {rs : List (List Rp)} (hv : validF host rs = true) : inC host 1 64 = true := by
  unfold validF at hv
  simp only [Bool.and_eq_true] at hv
  exact hv.1

/-- A round that grows: replies of authorities below k, rising. -/
def Gro (host nu hd : Int) (k : Nat) (L : List Rp) : Prop := L.length < k ∧ (∀ x ∈ L, x.Ok) ∧ ∀ i, i < L.length → rightB host nu hd (nthR L i) = true ∧ (nthR L i).a < k ∧ riseB L i = true
theorem Gro.nil (host nu hd : Int) : Gro host nu hd 1 [] := ⟨by simp, by simp, fun i hi => absurd hi (by simp)⟩
theorem Gro.skip {host nu hd : Int} {k : Nat} {L : List Rp} (h : Gro host nu hd k L) : Gro host nu hd (k + 1) L := ⟨by have := h.1; omega, h.2.1, fun i hi => let ⟨h1, h2, h3⟩ := h.2.2 i hi; ⟨h1, by omega, h3⟩⟩
theorem Gro.put {host nu hd : Int} {k : Nat} {L : List Rp} (h : Gro host nu hd k L) {x : Rp} (hx : x.Ok) (ha : x.a = k) (hr : rightB host nu hd x = true) : Gro host nu hd (k + 1) (L ++ [x]) := by
  refine ⟨by have := h.1; simp; omega, fun y hy => ?_, fun i hi => ?_⟩
  · rcases List.mem_append.1 hy with hy | hy
    · exact h.2.1 y hy
    · rw [List.mem_singleton.1 hy]; exact hx
  · rw [List.length_append] at hi
    simp only [List.length_cons, List.length_nil] at hi
    by_cases hlt : i < L.length
    · obtain ⟨h1, h2, h3⟩ := h.2.2 i hlt
      rw [nthR_app_left hlt]
      refine ⟨h1, by omega, ?_⟩
      unfold riseB at h3 ⊢
      rw [nthR_app_left hlt, nthR_app_left (by omega)]
      exact h3
    · obtain rfl : i = L.length := by omega
      have e : nthR (L ++ [x]) L.length = x := by rw [nthR_app_right (Nat.le_refl _), Nat.sub_self]; rfl
      rw [e]
      refine ⟨hr, by omega, ?_⟩
      unfold riseB
      rw [e]
      rcases Nat.eq_zero_or_pos L.length with h0 | h0
      · rw [h0]; rfl
      · rw [nthR_app_left (by omega)]
        have := (h.2.2 (L.length - 1) (by omega)).2.1
        simp only [Bool.or_eq_true, decide_eq_true_eq]
        right; omega
theorem Gro.fits {host nu hd : Int} {k : Nat} {L : List Rp} (h : Gro host nu hd k L) : fitsF host nu hd L = true := by
  unfold fitsF
  rw [all_range]
  intro i hi
  obtain ⟨h1, _, h3⟩ := h.2.2 i hi
  unfold stepB'
  rw [h1, h3]; rfl
theorem rightB_mk {host nu hd lo hi : Int} {k : Nat} (hh : inC host 1 64 = true) (hn : 1 ≤ nu ∧ nu ≤ 200) (hs : 0 ≤ lo ∧ lo ≤ hi ∧ hi ≤ 3000000000000000) (hk : 1 ≤ k ∧ k ≤ 16) : rightB host nu hd ⟨(k : Int), host, nu, nonF hd host nu k, lo, hi, 0, 0, 0, 0⟩ = true := by
  unfold rightB wfR idsB stampB restB
  simp only [hh, Bool.and_eq_true, inC_iff, decide_eq_true_eq, beq_self_eq_true, and_true, true_and]
  omega
theorem ok_mk {host nu no lo hi : Int} {k : Nat} (h1 : (Lit.int .i64 host).wf = true) (hn : 1 ≤ nu ∧ nu ≤ 200) (h2 : 0 ≤ no ∧ no ≤ 18446744073709551615) (h3 : (Lit.int .i64 lo).wf = true) (h4 : (Lit.int .i64 hi).wf = true) (hk : k ≤ 16) : (⟨(k : Int), host, nu, no, lo, hi, 0, 0, 0, 0⟩ : Rp).Ok :=
  ⟨wfi (n := (k : Int)) (by omega) (by omega), h1, wfi (n := nu) (by omega) (by omega), by simp [Lit.wf, IntKind.min, IntKind.max, IntKind.bits, IntKind.signed]; omega, h3, h4, rfl, rfl, rfl, rfl⟩

/-! ### A variable that holds a round, and a row of replies of the call's own -/
def RdV (W : World) (b : Nat) (a : Option Addr) (n c : Nat) : Prop := W.heap[b]? = some (.cells #[.slice a n c] 27 (0, 0))
theorem RdV.ext {W W' : World} {b n c : Nat} {a : Option Addr} (h : RdV W b a n c) (he : Ext W W') : RdV W' b a n c := (he.block b (Array.getElem?_eq_some_iff.1 h).1).trans h
theorem RdV.c0 {W : World} {b n c : Nat} {a : Option Addr} (h : RdV W b a n c) : W.cell? ⟨b, 0, none⟩ = some (.slice a n c) := cell_of_block h 0 _ rfl
theorem RdV.stored {W : World} {b n c : Nat} {a : Option Addr} (h : RdV W b a n c) (a' : Option Addr) (n' c' : Nat) : RdV (W.setCell ⟨b, 0, none⟩ (.slice a' n' c')) b a' n' c' := heap_setCell_same _ b 0 _ _ _ h
theorem OwR.ne_rd {base : Nat} {w : World} {sa : Option Addr} {n c : Nat} {xs : List Rp} (h : OwR 39 base w sa n c xs) {b n1 c1 : Nat} {a1 : Option Addr} (hC : RdV w b a1 n1 c1) : some b ≠ (Value.slice sa n c).ownBlock := by
  intro e
  rcases h.2.2 with ⟨hv, _⟩ | ⟨g, cap, cur, hv, _, hg, _⟩
  · rw [hv] at e; cases e
  · rw [hv] at e
    simp only [Value.ownBlock, Option.some.injEq] at e
    subst e
    unfold RdV at hC
    rw [hC] at hg
    simp only [Option.some.injEq, Obj.cells.injEq] at hg
    exact absurd hg.2.1 (by decide)
theorem OwR.setRd {base : Nat} {w : World} {sa : Option Addr} {n c : Nat} {xs : List Rp} (h : OwR 39 base w sa n c xs) {b n1 c1 : Nat} {a1 : Option Addr} (hC : RdV w b a1 n1 c1) (v : Value) : OwR 39 base (w.setCell ⟨b, 0, none⟩ v) sa n c xs := by
  refine ⟨h.1, World.ownsRow.kept (row := some b) h.2 ⟨rfl, rfl, rfl, (KeepsOthers.setCell w _ _).size, fun k hk hkb => heap_setCell_other w ⟨b, 0, none⟩ k v (fun e => hkb (by rw [e]))⟩ ?_⟩
  right
  exact fun e => h.ne_rd hC e.symm
theorem RdV.grown {base : Nat} {W W' : World} {sa : Option Addr} {n c : Nat} {xs : List Rp} {b n1 c1 : Nat} {a1 : Option Addr} (hC : RdV W b a1 n1 c1) (h : OwR 39 base W sa n c xs) (hg : W.grownBy W' (Value.slice sa n c).ownBlock) : RdV W' b a1 n1 c1 :=
  (hg.block b (Array.getElem?_eq_some_iff.1 hC).1 (h.ne_rd hC)).trans hC
/-- 'append(s, t...)' of records, t not empty; it tells which blocks stay. -/
theorem appRg {α : Type} [Cel α] {P : Program} {T E : TypeId} {z : Value} {by_ : Nat} (hE : ElS P T E z (Cel.sz α) by_) {ops : Array Oper} {rest : List Oper} {o : Oper} {a : Act} {Q : Exit → Act → World → Prop} (hgd : o.guard = none) (s x : Operand)
    (ho : o.op = .call { callee := .builtin .append, args := #[s, x], argTypes := #[T, T] })
    (w : World) (base : Nat) (sa : Option Addr) (n c : Nat) (xs : List α) (hs : a.eval s = .slice sa n c) (hown : OwR E base w sa n c xs)
    (b off m tc : Nat) (ys : List α) (hx : a.eval x = .slice (some ⟨b, off, none⟩) m tc) (ht : Rw w (some ⟨b, off, none⟩) m tc ys) (hm : 0 < m) (hbase : base ≤ w.heap.size) (h63 : n + m ≤ maxLen) (hbytes : (n + m) * by_ ≤ 140737488355328)
    (h : ∀ g cap w', OwR E base w' (some ⟨g, 0, none⟩) (n + m) cap (xs ++ ys) → Below base w w' → w.grownBy w' (Value.slice sa n c).ownBlock → wpList P ops Q rest (a.put o.dst (.slice (some ⟨g, 0, none⟩) (n + m) cap)) w') :
    wpList P ops Q (o :: rest) a w := by
  refine appC hE hgd s x ho w base sa n c _ hs hown.2 b off m tc (ys.flatMap Cel.enc) hx (by rw [flat_len, ht.hlen]) ht.flat (flat_one ys) hm hbase h63 hbytes ?_
  intro g cap w' h2 h3 h4 _
  exact h g cap w' ⟨by rw [List.length_append, hown.1, ht.hlen], by rw [List.flatMap_append]; exact h2⟩ h3 h4
def RCh (j B : Nat) (H : Int) (a : Option Addr) (n c : Nat) : RelL Ext := ⟨some j, fun u _ W => ∃ b, u = .pointer (some ⟨b, 0, none⟩) ∧ B ≤ b ∧ ChB W b H a n c, fun u v W W' ⟨b, h1, h2, h3⟩ hE => ⟨b, h1, h2, h3.ext hE⟩⟩
def RNr (br B n : Nat) (L : List Rp) : RelL Ext := ⟨none, fun _ v W => ∃ g c, v = .slice (some ⟨g, 0, none⟩) n c ∧ OwR 39 B W (some ⟨g, 0, none⟩) n c L ∧ ∃ a1 n1 c1, RdV W br a1 n1 c1, fun u v W W' ⟨g, c, h1, h2, a1, n1, c1, h3⟩ hE => ⟨g, c, h1, h2.ext hE, a1, n1, c1, h3.ext hE⟩⟩
def RLt (B : Nat) (cs : Array Value) : RelL Ext := ⟨none, fun _ v W => ∃ b, v = .slice (some ⟨b, 0, none⟩) 1 1 ∧ B ≤ b ∧ W.heap[b]? = some (.cells cs 39 (0, 0)), fun _ v W W' ⟨b, h1, h2, h3⟩ hE => ⟨b, h1, h2, (hE.block b (Array.getElem?_eq_some_iff.1 h3).1).trans h3⟩⟩
def RFn (j b B n : Nat) (L : List Rp) : RelL Ext := ⟨some j, fun u _ W => ∃ g c, u = .slice (some ⟨g, 0, none⟩) n c ∧ RdV W b (some ⟨g, 0, none⟩) n c ∧ OwR 39 B W (some ⟨g, 0, none⟩) n c L, fun u v W W' ⟨g, c, h1, h2, h3⟩ hE => ⟨g, c, h1, h2.ext hE, h3.ext hE⟩⟩
theorem updE_false {listed : Nat → Bool} {i k : Nat} (h : updE listed i k = false) : listed k = false := by
  unfold updE at h
  simp only [Bool.or_eq_false_iff] at h
  exact h.1
end Go.Proofs.YtfohekfhcolnfaaDoor
