/-
  The decimal text of an integer behind a row of bytes that is full and not the call's own.
-/
import Derived.Test.YtfohekfhcolnfaaDoorD7
import Derived.ArgAppend
import Derived.Lib.AppendStr
namespace Go.Proofs.YtfohekfhcolnfaaDoor
open Go.RowKit Go.Sort
set_option linter.unusedSimpArgs false
set_option linter.unusedVariables false
set_option maxRecDepth 100000

theorem Sl.cellsAt {k : IntKind} {w : World} {b off n c : Nat} {xs : List Int} (h : Sl k w (some ⟨b, off, none⟩) n c xs) : ∀ j u, (xs.map (Value.int k))[j]? = some u → w.cell? ((⟨b, off, none⟩ : Addr).add j) = some u := by
  intro j u hj
  have hjl : j < xs.length := by
    have := (List.getElem?_eq_some_iff.1 hj).1
    simpa using this
  obtain ⟨b', off', he, hc⟩ := h.cells j (by rw [← h.hlen]; exact hjl)
  simp only [Option.some.injEq, Addr.mk.injEq, and_true] at he
  obtain ⟨rfl, rfl⟩ := he
  have hadd : (⟨b, off, none⟩ : Addr).add j = ⟨b, off + j, none⟩ := by unfold Addr.add; split <;> simp_all
  rw [hadd, hc]
  simp [hjl] at hj
  rw [← hj]
  simp [nth, List.getD_eq_getElem?_getD, hjl]

theorem ext_of_grown {w w' : World} (h : w.grownBy w' none) : Ext w w' := (Below.refl w.heap.size w).grown h (Nat.le_refl _) (fun k hk => by cases hk)

/-- 'append(s, t...)' onto a full row, t not empty: a new row of the call's own. -/
theorem appF {P : Program} {T E : TypeId} {k : IntKind} {by_ : Nat} (hE : ElT P T E (.int k 0) 1 by_) {ops : Array Oper} {rest : List Oper} {o : Oper} {a : Act} {Q : Exit → Act → World → Prop} (hgd : o.guard = none) (s x : Operand)
    (ho : o.op = .call { callee := .builtin .append, args := #[s, x], argTypes := #[T, T] })
    (w : World) (b off n : Nat) (xs : List Int) (hs : a.eval s = .slice (some ⟨b, off, none⟩) n n) (hsl : Sl k w (some ⟨b, off, none⟩) n n xs)
    (tb toff m tc : Nat) (ys : List Int) (hx : a.eval x = .slice (some ⟨tb, toff, none⟩) m tc) (ht : Sl k w (some ⟨tb, toff, none⟩) m tc ys) (hm : 0 < m) (h63 : n + m ≤ maxLen) (hbytes : (n + m) * by_ ≤ 140737488355328)
    (h : ∀ g cap w', OwI k E w.heap.size w' (some ⟨g, 0, none⟩) (n + m) cap (xs ++ ys) → Ext w w' → wpList P ops Q rest (a.put o.dst (.slice (some ⟨g, 0, none⟩) (n + m) cap)) w') :
    wpList P ops Q (o :: rest) a w := by
  obtain ⟨hT, hI⟩ := hE
  obtain ⟨i, hi, hz, hsz, hby⟩ := info_parts hI
  refine wpList_append_grows w hgd s x T ho E i (.int k 0) 1 by_ hT hi hz hsz hby rfl (by decide) (some ⟨b, off, none⟩) n n (xs.map (Value.int k)) hs (fun e => by cases e) (by simp [hsl.hlen])
    (fun b' hb => by cases hb; exact hsl.cellsAt) ⟨tb, toff, none⟩ m tc (ys.map (Value.int k)) hx (by simp [ht.hlen]) ht.cellsAt ?_ (by omega) h63 hbytes fun v' w' hown hg => ?_
  · intro u hu
    simp only [List.mem_map] at hu
    obtain ⟨x, _, rfl⟩ := hu
    simp [Value.oneCell']
  · rcases hown.2 with ⟨_, h0⟩ | ⟨g, cap, cur, hv, _⟩
    · omega
    · subst hv
      refine h g cap w' ?_ (ext_of_grown hg)
      unfold OwI
      rw [List.map_append]
      exact hown

/-- 'append(s, t...)' onto a full row of bytes, t a string that is not empty. -/
theorem appFs {P : Program} {T E U : TypeId} (hE : ElT P T E (.int .u8 0) 1 1) (hU : P.underlying U = some .string) {ops : Array Oper} {rest : List Oper} {o : Oper} {a : Act} {Q : Exit → Act → World → Prop} (hgd : o.guard = none) (s x : Operand)
    (ho : o.op = .call { callee := .builtin .append, args := #[s, x], argTypes := #[T, U] })
    (w : World) (b off n : Nat) (xs : List Int) (hs : a.eval s = .slice (some ⟨b, off, none⟩) n n) (hsl : Sl .u8 w (some ⟨b, off, none⟩) n n xs)
    (t : List UInt8) (hx : a.eval x = .string ⟨t.toArray⟩) (hm : 0 < t.length) (hlim : n + t.length ≤ 140737488355328)
    (h : ∀ g cap w', OwI .u8 E w.heap.size w' (some ⟨g, 0, none⟩) (n + t.length) cap (xs ++ t.map fun b => (b.toNat : Int)) → Ext w w' → wpList P ops Q rest (a.put o.dst (.slice (some ⟨g, 0, none⟩) (n + t.length) cap)) w') :
    wpList P ops Q (o :: rest) a w := by
  obtain ⟨hT, hI⟩ := hE
  obtain ⟨i, hi, hz, hsz, hby⟩ := info_parts hI
  have hsz' : (⟨t.toArray⟩ : ByteArray).size = t.length := by simp [ByteArray.size]
  have hsc : Lib.strCells ⟨t.toArray⟩ = (t.map fun b => (b.toNat : Int)).map (Value.int .u8) := by simp [Lib.strCells, List.map_map, Function.comp_def]
  have hr := Lib.run_append_grow_string (P := P) w T U o.type E i (.int .u8 0) hT hU hi hz ⟨b, off, none⟩ n n (xs.map (Value.int .u8)) (by rw [hsz]; simp [hsl.hlen]) hsl.cellsAt ⟨t.toArray⟩ (by omega) (by omega) (by rw [hby]; exact growslice_fits (by omega) (by omega))
  rw [hsz', hsc] at hr
  have hge := grownCap_ge w (n + t.length) n E
  have hcm : grownCap w (n + t.length) n E ≤ maxLen := grownCap_le_maxLen w (n + t.length) n E (by unfold maxLen; omega)
  have hl : (xs ++ t.map fun b => (b.toNat : Int)).length = n + t.length := by simp [hsl.hlen]
  refine wpList_plain hgd fun K hK => ?_
  unfold Oper.wp execOp
  simp only [ho, resolve, invoke, builtin, Sem.run_bind, Sem.run_pure, Result.andThen_ok, List.map_toArray, List.map_cons, List.map_nil, hs, hx, hr]
  refine hK _ _ (h _ _ _ ⟨by simp [hsl.hlen], .inr ⟨w.heap.size, _, _, rfl, Nat.le_refl _, heap_alloc_new w.drew _, hge, hcm, ?_, ?_⟩⟩ (((Ext.refl w).drew).alloc _))
  · have hz1 : (Value.int IntKind.u8 0).cells.size = 1 := rfl
    simp only [Array.size_append, List.size_toArray, size_zeroCells, hz1, List.length_map, hsl.hlen]
    omega
  · simp only [Array.toList_append, List.append_assoc]
    rw [← List.append_assoc, ← List.map_append, show (n + t.length) * 1 = ((xs ++ t.map fun b => (b.toNat : Int)).map (Value.int .u8)).length from by rw [List.length_map, hl, Nat.mul_one]]
    exact List.take_left

/-- 'append(s, t...)' onto a row of the call's own, t a string. -/
theorem appSs {P : Program} {T E U : TypeId} (hE : ElT P T E (.int .u8 0) 1 1) (hU : P.underlying U = some .string) {ops : Array Oper} {rest : List Oper} {o : Oper} {a : Act} {Q : Exit → Act → World → Prop} (hgd : o.guard = none) (s x : Operand)
    (ho : o.op = .call { callee := .builtin .append, args := #[s, x], argTypes := #[T, U] })
    (w : World) (base : Nat) (sa : Option Addr) (n c : Nat) (xs : List Int) (hs : a.eval s = .slice sa n c) (hown : OwI .u8 E base w sa n c xs)
    (t : List UInt8) (hx : a.eval x = .string ⟨t.toArray⟩) (hbase : base ≤ w.heap.size) (hlim : n + t.length ≤ 140737488355328)
    (h : ∀ a' cap w', OwI .u8 E base w' a' (n + t.length) cap (xs ++ t.map fun b => (b.toNat : Int)) → Below base w w' → wpList P ops Q rest (a.put o.dst (.slice a' (n + t.length) cap)) w') :
    wpList P ops Q (o :: rest) a w := by
  obtain ⟨hT, hI⟩ := hE
  obtain ⟨i, hi, hz, hsz, hby⟩ := info_parts hI
  have hsz' : (⟨t.toArray⟩ : ByteArray).size = t.length := by simp [ByteArray.size]
  have hsc : Lib.strCells ⟨t.toArray⟩ = (t.map fun b => (b.toNat : Int)).map (Value.int .u8) := by simp [Lib.strCells, List.map_map, Function.comp_def]
  refine Lib.wpList_append_own_string w hgd s x T U ho base E i hT hU hi hz hsz hby _ n _ hs hown ⟨t.toArray⟩ hx (by rw [hsz']; unfold maxLen; omega) (by rw [hsz']; omega) hbase fun v' w' h2 h3 _ => ?_
  rw [hsz', hsc] at h2
  have hv : ∃ a' cap, v' = .slice a' (n + t.length) cap := by
    rcases h2.2 with ⟨hv, h0⟩ | ⟨g, cap, cur, hv, _⟩
    · exact ⟨none, 0, by rw [hv]; congr 1; omega⟩
    · exact ⟨_, _, hv⟩
  obtain ⟨a', cap, rfl⟩ := hv
  refine h a' cap w' ?_ (below_grown hown hbase h3)
  unfold OwI
  rw [List.map_append]
  exact h2
end Go.Proofs.YtfohekfhcolnfaaDoor
