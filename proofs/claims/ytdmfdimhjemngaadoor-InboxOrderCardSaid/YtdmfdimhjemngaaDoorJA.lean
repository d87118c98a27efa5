/-
  The order of answers: which are not lost, in plain words; an append that leaves what was there; a box stored over a box.
-/
import Derived.Test.YtdmfdimhjemngaaDoorIY
namespace Go.Proofs.YtdmfdimhjemngaaDoor
open Go.RowKit Go.Sort Go.Shelf
set_option linter.unusedSimpArgs false
set_option linter.unusedVariables false
set_option maxRecDepth 100000

theorem and15 {n : Int} (h : 0 ≤ n ∧ n ≤ 1000) : bits .and .i64 n 15 = n % 16 := by
  show IntKind.i64.wrap ((BitVec.ofInt 64 n &&& BitVec.ofInt 64 15).toNat : Int) = _
  rw [BitVec.toNat_and, BitVec.toNat_ofInt, show (BitVec.ofInt 64 15).toNat = 2 ^ 4 - 1 from rfl, Nat.and_two_pow_sub_one_eq_mod]
  have e : (n % ((2 ^ 64 : Nat) : Int)).toNat = n.toNat := by omega
  rw [e]
  have : ((n.toNat % 2 ^ 4 : Nat) : Int) = n % 16 := by omega
  rw [this]
  unfold IntKind.wrap
  simp [IntKind.signed, IntKind.bits, IntKind.min, IntKind.max]
  try omega
/-- Which authority's answer is lost, as the program computes it. -/
def lossV (lo a : Int) : Int := bitV lo (a % 16).toNat
def ordU (lo : Int) (A : List Int) (k : Nat) : List Int := ((List.range k).filter fun i => lossV lo (nth A i) == 0).map fun i : Nat => (i : Int)
theorem ordU_succ (lo : Int) (A : List Int) (k : Nat) : ordU lo A (k + 1) = if (lossV lo (nth A k) == 0) = true then ordU lo A k ++ [(k : Int)] else ordU lo A k := by
  unfold ordU
  rw [List.range_succ, List.filter_append, List.map_append]
  by_cases h : (lossV lo (nth A k) == 0) = true
  · rw [if_pos h]; simp [h]
  · rw [if_neg h]; simp [h]
theorem ordU_len (lo : Int) (A : List Int) (k : Nat) : (ordU lo A k).length ≤ k := by
  unfold ordU
  rw [List.length_map]
  exact Nat.le_trans (List.length_filter_le _ _) (by simp)
theorem ordU_mem {lo : Int} {A : List Int} {k : Nat} : ∀ x ∈ ordU lo A k, 0 ≤ x ∧ x < k := by
  intro x hx
  unfold ordU at hx
  simp only [List.mem_map, List.mem_filter, List.mem_range] at hx
  obtain ⟨i, ⟨hi, _⟩, rfl⟩ := hx
  omega
theorem ordU_pw (lo : Int) (A : List Int) (k : Nat) : (ordU lo A k).Pairwise (· < ·) := by
  unfold ordU
  rw [List.pairwise_map]
  exact (List.pairwise_lt_range.filter _).imp (fun h => by omega)
theorem pw_nth {l : List Int} (h : l.Pairwise (· < ·)) : ∀ i j, i < j → j < l.length → nth l i < nth l j := by
  intro i j hij hj
  have := List.pairwise_iff_getElem.1 h i j (by omega) hj hij
  simpa [nth, List.getD_eq_getElem?_getD, hj, show i < l.length by omega] using this
theorem pw_nodup {l : List Int} (h : l.Pairwise (· < ·)) : l.Nodup := h.imp (fun h => by omega)
theorem ordU_P {B : Bx} (hf : frmX B = true) (ho : B.Ok) (hg : B.got = []) (lo : Int) {A : List Int} (hA : B.asked = A) : OrdP B (ordU lo A A.length) :=
  ⟨hf, ho, hg, fun i hi => by rw [hA]; exact ordU_mem i hi, pw_nodup (ordU_pw lo A A.length)⟩
theorem ord_rot (l : List Int) (k : Nat) : l.Perm (l.drop k ++ l.take k) := by
  have := List.perm_append_comm (l₁ := l.take k) (l₂ := l.drop k)
  rw [List.take_append_drop] at this
  exact this
theorem ordW {l : List Int} {m : Nat} (hm : m ≤ 1000) (h : ∀ x ∈ l, 0 ≤ x ∧ x < m) : ∀ x ∈ l, (Lit.int .i64 x).wf = true := fun x hx => by have := h x hx; exact wf_of_i64 (by omega) (by omega)

theorem el_i64S : ElS Tryd.prog 30 3 (.int .i64 0) 1 8 := ⟨by kernel_rfl, by kernel_rfl, rfl, by decide⟩

/-- 'append(s, t...)', s of the call's own and not nil, t not nil: what s was stays what it was. -/
theorem appKeep {P : Program} {T E : TypeId} {k : IntKind} {by_ : Nat} (hE : ElT P T E (.int k 0) 1 by_) {ops : Array Oper} {rest : List Oper} {o : Oper} {a : Act} {Q : Exit → Act → World → Prop} (hgd : o.guard = none) (s x : Operand)
    (ho : o.op = .call { callee := .builtin .append, args := #[s, x], argTypes := #[T, T] })
    (w : World) (base : Nat) (g n c : Nat) (xs : List Int) (hs : a.eval s = .slice (some ⟨g, 0, none⟩) n c) (hown : OwI k E base w (some ⟨g, 0, none⟩) n c xs)
    (tb tf m tc : Nat) (ys : List Int) (hx : a.eval x = .slice (some ⟨tb, tf, none⟩) m tc) (hl : ys.length = m) (ht : ∀ i, i < m → w.cell? ⟨tb, tf + i, none⟩ = some (.int k (nth ys i))) (hbase : base ≤ w.heap.size) (h63 : n + m ≤ maxLen) (hbytes : (n + m) * by_ ≤ 140737488355328)
    (h : ∀ g' cap w', OwI k E base w' (some ⟨g', 0, none⟩) (n + m) cap (xs ++ ys) → Below base w w' → w.grownBy w' (some g) → OwI k E base w' (some ⟨g, 0, none⟩) n c xs → wpList P ops Q rest (a.put o.dst (.slice (some ⟨g', 0, none⟩) (n + m) cap)) w') :
    wpList P ops Q (o :: rest) a w := by
  obtain ⟨hT, hI⟩ := hE
  obtain ⟨i, hi, hz, hsz, hby⟩ := info_parts hI
  have hnews : ∀ j u, (ys.map (Value.int k))[j]? = some u → w.cell? ((⟨tb, tf, none⟩ : Addr).add j) = some u := by
    intro j u hu
    have hj : j < m := by
      rcases Nat.lt_or_ge j m with h | h
      · exact h
      · rw [List.getElem?_eq_none (by simp; omega)] at hu; cases hu
    have hadd : (⟨tb, tf, none⟩ : Addr).add j = ⟨tb, tf + j, none⟩ := by unfold Addr.add; split <;> simp_all
    rw [hadd, ht j hj]
    have hj' : j < ys.length := by omega
    simp [hj'] at hu
    rw [← hu]
    simp [nth, List.getD_eq_getElem?_getD, hj']
  have h1 : ∀ u ∈ ys.map (Value.int k), u.oneCell' = true := by
    intro u hu
    simp only [List.mem_map] at hu
    obtain ⟨x, _, rfl⟩ := hu
    simp [Value.oneCell']
  obtain ⟨v', w', hr, hn, hg, _, _⟩ := run_append_own_at (P := P) w base T o.type E i (.int k 0) 1 by_ hT hi hz hsz hby rfl (by decide) _ n _ hown ⟨tb, tf, none⟩ m tc (ys.map (Value.int k)) (by simp [hl]) hnews h1 h63 hbytes hbase
  have hmx : n + m ≤ 9223372036854775807 := by simp only [maxLen] at h63; omega
  have hkeep : OwI k E base w' (some ⟨g, 0, none⟩) n c xs ∧ ∃ g' cap, v' = .slice (some ⟨g', 0, none⟩) (n + m) cap := by
    rcases hown.2 with ⟨hv, _⟩ | ⟨g2, cap, cur, hv, hbg, hgc, hnc, hcm, hcs, htake⟩
    · simp at hv
    · simp only [Value.slice.injEq, Option.some.injEq, Addr.mk.injEq, and_true, true_and] at hv
      obtain ⟨rfl, rfl⟩ := hv
      simp only [Nat.mul_one] at hcs htake
      by_cases hroom : n + m ≤ c
      · have hr2 := run_append_room (P := P) w T o.type E i hT hi g n c cur hgc ⟨tb, tf, none⟩ m tc (ys.map (Value.int k)) (by simp [hl, hsz]) hnews h1 hroom (by simp [hl, hsz, hcs]; omega)
        rw [hr] at hr2
        simp only [Result.ok.injEq] at hr2
        obtain ⟨rfl, rfl⟩ := hr2
        refine ⟨⟨hown.1, .inr ⟨g, c, _, rfl, hbg, setRow_heap w g cur _ E _ hgc, hnc, hcm, ?_, ?_⟩⟩, g, c, rfl⟩
        · simp only [hsz, List.size_toArray, List.length_append, List.length_take, List.length_drop, Array.length_toList, List.length_map, hl]
          omega
        · rw [← htake]
          simp only [hsz, Nat.mul_one]
          rw [List.append_assoc, List.take_append_of_le_length (by simp [hcs, hnc]), List.take_take]
          simp
      · have holds : ∀ j u, (xs.map (Value.int k))[j]? = some u → w.cell? ((⟨g, 0, none⟩ : Addr).add j) = some u := World.ownsRow.cells hown (g := g) rfl
        have hr2 := run_append_grow (P := P) w T o.type E i (.int k 0) hT hi hz ⟨g, 0, none⟩ n c (xs.map (Value.int k)) (by simp [hown.hlen, hsz]) holds ⟨tb, tf, none⟩ m tc (ys.map (Value.int k)) (by simp [hl, hsz]) hnews (by omega) (by omega) (by rw [hby]; exact growslice_fits (by omega) hbytes)
        rw [hr] at hr2
        simp only [Result.ok.injEq] at hr2
        obtain ⟨rfl, rfl⟩ := hr2
        exact ⟨hown.ext ((Ext.refl w).drew.alloc _), _, _, rfl⟩
  obtain ⟨hold2, g', cap, rfl⟩ := hkeep
  refine wpList_plain hgd fun K hK => ?_
  unfold Oper.wp
  simp only [execOp, ho, resolve, invoke, builtin, Sem.run_bind, Sem.run_pure, Result.andThen_ok, List.map_toArray, List.map_cons, List.map_nil, hs, hx, hr]
  refine hK _ _ (h g' cap w' ?_ (below_grown hown hbase hg) hg hold2)
  unfold OwI
  rw [List.map_append]
  exact hn
/-- A block that holds no box yet, or this box with some slices. -/
def BxSt (W : World) (b : Nat) (B : Bx) : Prop := Bk W b 33 #[.int .i64 0, .int .i64 0, .int .u64 0, .int .i64 0, .int .i64 0, .slice none 0 0, .slice none 0 0] ∨ ∃ a1 n1 c1 a2 n2 c2, Bk W b 33 #[.int .i64 B.host, .int .i64 B.round, .int .u64 B.head, .int .i64 B.sent, .int .i64 B.wait, .slice a1 n1 c1, .slice a2 n2 c2]
theorem BxSt.seven {W : World} {b : Nat} {B : Bx} (h : BxSt W b B) : ∃ c0 c1 c2 c3 c4 c5 c6, Bk W b 33 #[c0, c1, c2, c3, c4, c5, c6] := by
  rcases h with h | ⟨_, _, _, _, _, _, h⟩
  · exact ⟨_, _, _, _, _, _, _, h⟩
  · exact ⟨_, _, _, _, _, _, _, h⟩
theorem BxSt.ext {W W' : World} {b : Nat} {B : Bx} (h : BxSt W b B) (hE : Ext W W') : BxSt W' b B := by
  rcases h with h | ⟨a1, n1, c1, a2, n2, c2, h⟩
  · exact .inl (h.ext hE)
  · exact .inr ⟨a1, n1, c1, a2, n2, c2, h.ext hE⟩
theorem BxSt.lt {W : World} {b : Nat} {B : Bx} (h : BxSt W b B) : b < W.heap.size := by
  obtain ⟨_, _, _, _, _, _, _, h⟩ := h.seven
  exact h.lt
theorem BxSt.sl {W : World} {b : Nat} {B : Bx} (hb : BxSt W b B) {a : Option Addr} {n c : Nat} {xs : List Int} (h : Sl .i64 W a n c xs) (hA : ∀ x ∈ xs, 1 ≤ x) (a1 a2 : Option Addr) (n1 c1 n2 c2 : Nat) : Sl .i64 (((((((W.setCell ⟨b, 0, none⟩ (.int .i64 B.host)).setCell ⟨b, 1, none⟩ (.int .i64 B.round)).setCell ⟨b, 2, none⟩ (.int .u64 B.head)).setCell ⟨b, 3, none⟩ (.int .i64 B.sent)).setCell ⟨b, 4, none⟩ (.int .i64 B.wait)).setCell ⟨b, 5, none⟩ (.slice a1 n1 c1)).setCell ⟨b, 6, none⟩ (.slice a2 n2 c2)) a n c xs := by
  refine ⟨h.hlen, h.le, h.max, fun i hi => ?_, h.wf⟩
  obtain ⟨b', off, rfl, hc⟩ := h.at (by omega)
  refine ⟨b', off, rfl, ?_⟩
  have hci := hc i hi
  have h1 : 1 ≤ nth xs i := hA _ (nth_mem (by rw [h.hlen]; exact hi))
  by_cases e : b' = b
  · subst e
    rcases hb with hb | ⟨_, _, _, _, _, _, hb⟩
    · exfalso
      have hl := (show _ = _ from hb)
      simp only [World.cell?, hl, Nat.zero_mul, Nat.add_zero] at hci
      rcases Nat.lt_or_ge (off + i) 7 with h7 | h7
      · have : off + i = 0 ∨ off + i = 1 ∨ off + i = 2 ∨ off + i = 3 ∨ off + i = 4 ∨ off + i = 5 ∨ off + i = 6 := by omega
        rcases this with e | e | e | e | e | e | e <;> rw [e] at hci <;> simp at hci <;> omega
      · rw [Array.getElem?_eq_none (by simpa using h7)] at hci
        cases hci
    · have hl := (show _ = _ from hb)
      have hl2 := (show _ = _ from Bk.set7 hb (.int .i64 B.host) (.int .i64 B.round) (.int .u64 B.head) (.int .i64 B.sent) (.int .i64 B.wait) (.slice a1 n1 c1) (.slice a2 n2 c2))
      simp only [World.cell?, hl, Nat.zero_mul, Nat.add_zero] at hci
      generalize (((((((W.setCell ⟨b', 0, none⟩ (.int .i64 B.host)).setCell ⟨b', 1, none⟩ (.int .i64 B.round)).setCell ⟨b', 2, none⟩ (.int .u64 B.head)).setCell ⟨b', 3, none⟩ (.int .i64 B.sent)).setCell ⟨b', 4, none⟩ (.int .i64 B.wait)).setCell ⟨b', 5, none⟩ (.slice a1 n1 c1)).setCell ⟨b', 6, none⟩ (.slice a2 n2 c2)) = W' at *
      simp only [World.cell?, hl2, Nat.zero_mul, Nat.add_zero]
      rw [← hci]
      rcases Nat.lt_or_ge (off + i) 7 with h7 | h7
      · have : off + i = 0 ∨ off + i = 1 ∨ off + i = 2 ∨ off + i = 3 ∨ off + i = 4 ∨ off + i = 5 ∨ off + i = 6 := by omega
        rcases this with e | e | e | e | e | e | e <;> rw [e] at hci ⊢ <;> simp at hci ⊢
      · rw [Array.getElem?_eq_none (by simpa using h7)] at hci
        cases hci
  · have h7 := set7_other (W := W) e (.int .i64 B.host) (.int .i64 B.round) (.int .u64 B.head) (.int .i64 B.sent) (.int .i64 B.wait) (.slice a1 n1 c1) (.slice a2 n2 c2)
    generalize (((((((W.setCell ⟨b, 0, none⟩ (.int .i64 B.host)).setCell ⟨b, 1, none⟩ (.int .i64 B.round)).setCell ⟨b, 2, none⟩ (.int .u64 B.head)).setCell ⟨b, 3, none⟩ (.int .i64 B.sent)).setCell ⟨b, 4, none⟩ (.int .i64 B.wait)).setCell ⟨b, 5, none⟩ (.slice a1 n1 c1)).setCell ⟨b, 6, none⟩ (.slice a2 n2 c2)) = W2 at *
    exact (World.cell?_of_block (w := W) h7).trans hci
theorem BxSt.apart {W : World} {b : Nat} {B : Bx} (hb : BxSt W b B) {a : Option Addr} {n c : Nat} {xs : List Rp} (h : Rw W a n c xs) : Aprt b a n := by
  intro b' off ha hn e
  subst e
  obtain ⟨b2, off', he, hc⟩ := h.at hn
  rw [ha] at he
  simp only [Option.some.injEq, Addr.mk.injEq, and_true] at he
  obtain ⟨rfl, rfl⟩ := he
  obtain ⟨_, _, _, _, _, _, _, hs⟩ := hb.seven
  have hl := (show _ = _ from hs)
  have h3 := hc 0 hn 9 _ rfl
  simp only [World.cell?, hl, Nat.zero_mul, Nat.add_zero] at h3
  rw [Array.getElem?_eq_none (by simp)] at h3
  cases h3
theorem BxSt.keep {W : World} {b : Nat} {B D : Bx} (hb : BxSt W b B) {sa ga : Option Addr} {sn sc gn gc : Nat} (h : BxF W D sa sn sc ga gn gc) (hA : ∀ x ∈ D.asked, 1 ≤ x) (a1 a2 : Option Addr) (n1 c1 n2 c2 : Nat) : BxF (((((((W.setCell ⟨b, 0, none⟩ (.int .i64 B.host)).setCell ⟨b, 1, none⟩ (.int .i64 B.round)).setCell ⟨b, 2, none⟩ (.int .u64 B.head)).setCell ⟨b, 3, none⟩ (.int .i64 B.sent)).setCell ⟨b, 4, none⟩ (.int .i64 B.wait)).setCell ⟨b, 5, none⟩ (.slice a1 n1 c1)).setCell ⟨b, 6, none⟩ (.slice a2 n2 c2)) D sa sn sc ga gn gc :=
  ⟨h.ok, hb.sl h.sl hA a1 a2 n1 c1 n2 c2, h.rw.set7 (hb.apart h.rw) _ _ _ _ _ _ _⟩
theorem OwI.other {W : World} {base : Nat} {a : Option Addr} {n c : Nat} {xs : List Int} (h : OwI .i64 3 base W a n c xs) {g : Nat} {cs : Array Value} (hg : Bk W g 33 cs) : (Value.slice a n c).ownBlock ≠ some g := by
  intro e
  rcases h.2 with ⟨hv, _⟩ | ⟨g2, cap, cur, hv, _, hc, _⟩
  · rw [hv] at e; cases e
  · rw [hv] at e
    simp only [Value.ownBlock, Option.some.injEq] at e
    subst e
    rw [show _ = _ from hg] at hc
    simp at hc
end Go.Proofs.YtdmfdimhjemngaaDoor
