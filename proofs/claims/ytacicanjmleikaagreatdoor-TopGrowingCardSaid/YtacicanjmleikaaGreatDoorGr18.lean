
import Derived.Test.YtacicanjmleikaaGreatDoorGr17
/- A part of the proof. -/
namespace Go.Proofs.YtacicanjmleikaaGreatDoor
open Go.RowKit Go.Sort Go.Shelf Go.Maps
set_option linter.unusedSimpArgs false
set_option linter.unusedVariables false
set_option maxRecDepth 100000
structure Ch where
 hs : List Hd
 at_ : Int
def ch0 : Ch := ⟨[], 0⟩
def nthC (l : List Ch) (i : Nat) : Ch := l.getD i ch0
structure ChR where
 a : Option Addr
 n : Nat
 c : Nat
 at_ : Int
def ChR.enc (x : ChR) : List Value := [.slice x.a x.n x.c, .int .i64 x.at_]
instance : Cel ChR where
 dflt := ⟨none, 0, 0, 0⟩
 sz := 2
 enc := ChR.enc
 ok := fun x => (Lit.int .i64 x.at_).wf = true
 len := fun _ => rfl
 pos := by decide
 one := by intro x v hv; simp [ChR.enc] at hv; rcases hv with rfl | rfl <;> rfl
theorem cells_ch {W : World} {b o : Nat} {x : ChR} (h : W.rangeAt b o (Cel.enc x)) : W.cell? ⟨b, o, none⟩ = some (.slice x.a x.n x.c) ∧ W.cell? ⟨b, o + 1, none⟩ = some (.int .i64 x.at_) :=
 ⟨by simpa using h 0 _ rfl, h 1 _ rfl⟩
structure ChL (W : World) (r : ChR) (x : Ch) : Prop where
 at_ : r.at_ = x.at_
 hs : Rw W r.a r.n r.c x.hs
theorem ChL.ext {W W' : World} {r : ChR} {x : Ch} (h : ChL W r x) (he : Ext W W') : ChL W' r x := ⟨h.at_, h.hs.ext he⟩
theorem nthC_left {xs ys : List Ch} {i : Nat} (h : i < xs.length) : nthC (xs ++ ys) i = nthC xs i := by simp [nthC, List.getD_eq_getElem?_getD, List.getElem?_append_left h]
theorem nthC_right {xs ys : List Ch} {n i : Nat} (hx : xs.length = n) (h : n ≤ i) : nthC (xs ++ ys) i = nthC ys (i - n) := by subst hx; simp [nthC, List.getD_eq_getElem?_getD, List.getElem?_append_right h]
def Chs (W : World) (a : Option Addr) (n c : Nat) (xs : List Ch) : Prop := ∃ rs : List ChR, Rw W a n c rs ∧ xs.length = n ∧ ∀ i, i < n → ChL W (nthR rs i) (nthC xs i)
theorem Chs.ext {W W' : World} {a : Option Addr} {n c : Nat} {xs : List Ch} (h : Chs W a n c xs) (he : Ext W W') : Chs W' a n c xs :=
 let ⟨rs, h1, h2, h3⟩ := h; ⟨rs, h1.ext he, h2, fun i hi => (h3 i hi).ext he⟩
theorem Chs.bd {W : World} {a : Option Addr} {n c : Nat} {xs : List Ch} (h : Chs W a n c xs) : n ≤ c ∧ c ≤ 9223372036854775807 ∧ n ≤ 17592186044416 := let ⟨_, h1, _⟩ := h; h1.bd
theorem Chs.hlen {W : World} {a : Option Addr} {n c : Nat} {xs : List Ch} (h : Chs W a n c xs) : xs.length = n := let ⟨_, _, h2, _⟩ := h; h2
theorem Chs.at {W : World} {a : Option Addr} {n c : Nat} {xs : List Ch} (h : Chs W a n c xs) (h0 : 0 < n) :
  ∃ b off, a = some ⟨b, off, none⟩ ∧ ∀ i, i < n → ∃ r : ChR, W.rangeAt b (off + i * 2) (Cel.enc r) ∧ ChL W r (nthC xs i) ∧ (Lit.int .i64 r.at_).wf = true := by
 obtain ⟨rs, h1, h2, h3⟩ := h
 obtain ⟨b, off, e, hc⟩ := h1.at h0
 exact ⟨b, off, e, fun i hi => ⟨nthR rs i, hc i hi, h3 i hi, h1.wfAt hi⟩⟩
def Apt (a x : Option Addr) (n : Nat) : Prop := ∀ b off, x = some ⟨b, off, none⟩ → 0 < n → a ≠ some ⟨b, 0, none⟩
structure ChO (a : Option Addr) (W : World) (r : ChR) (x : Ch) : Prop where
 l : ChL W r x
 ok : (Lit.int .i64 r.at_).wf = true
 pr : Apt a r.a r.n
theorem ChO.ext {a : Option Addr} {W W' : World} {r : ChR} {x : Ch} (h : ChO a W r x) (he : Ext W W') : ChO a W' r x := ⟨h.l.ext he, h.ok, h.pr⟩
def OwCh (base : Nat) (W : World) (a : Option Addr) (n c : Nat) (xs : List Ch) : Prop := ∃ rs : List ChR, OwR 90 base W a n c rs ∧ xs.length = n ∧ ∀ i, i < n → ChO a W (nthR rs i) (nthC xs i)
theorem OwCh.nil (base : Nat) (W : World) : OwCh base W none 0 0 [] := ⟨[], OwR.nil _ _ _, rfl, fun i hi => absurd hi (Nat.not_lt_zero _)⟩
theorem OwCh.ext {base : Nat} {W W' : World} {a : Option Addr} {n c : Nat} {xs : List Ch} (h : OwCh base W a n c xs) (he : Ext W W') : OwCh base W' a n c xs :=
 let ⟨rs, h1, h2, h3⟩ := h; ⟨rs, h1.ext he, h2, fun i hi => (h3 i hi).ext he⟩
theorem OwR.monoB {α : Type} [Cel α] {E : TypeId} {base base' : Nat} {W : World} {a : Option Addr} {n c : Nat} {xs : List α} (h : OwR E base W a n c xs) (hb : base' ≤ base) : OwR E base' W a n c xs := by
 obtain ⟨h0, h1, h2⟩ := h
 refine ⟨h0, h1, ?_⟩
 rcases h2 with h2 | ⟨g, cap, cur, hv, hg, r⟩
 ·exact .inl h2
 ·exact .inr ⟨g, cap, cur, hv, by omega, r⟩
theorem OwCh.chs {base : Nat} {W : World} {a : Option Addr} {n c : Nat} {xs : List Ch} (h : OwCh base W a n c xs) (hlim : n ≤ 17592186044416) : Chs W a n c xs := by
 obtain ⟨rs, h1, h2, h3⟩ := h
 have hl := h1.1
 refine ⟨rs, h1.rw hlim (fun x hx => ?_), h2, fun i hi => (h3 i hi).l⟩
 obtain ⟨i, hi, rfl⟩ := List.mem_iff_getElem.1 hx
 rw [← nthR_get hi]
 exact (h3 i (by omega)).ok
theorem OwCh.headAt {base : Nat} {W : World} {a : Option Addr} {n c : Nat} {xs : List Ch} (h : OwCh base W a n c xs) : (a = none ∧ n = 0 ∧ c = 0) ∨ ∃ g, a = some ⟨g, 0, none⟩ ∧ base ≤ g ∧ g < W.heap.size :=
 let ⟨_, h1, _⟩ := h; h1.headAt
theorem appChs {P : Program} {T : TypeId} {z : Value} {by_ : Nat} (hE : ElS P T 90 z 2 by_) {ops : Array Oper} {rest : List Oper} {o : Oper} {a : Act} {Q : Exit → Act → World → Prop} (hgd : o.guard = none) (s x : Operand)
  (ho : o.op = .call { callee := .builtin .append, args := #[s, x], argTypes := #[T, T] })
  (w : World) (base : Nat) (sa : Option Addr) (n c : Nat) (ts : List Ch) (hs : a.eval s = .slice sa n c) (hown : OwCh base w sa n c ts)
  (b off m tc : Nat) (us : List Ch) (rs' : List ChR) (hx : a.eval x = .slice (some ⟨b, off, none⟩) m tc) (hl : rs'.length = m) (hul : us.length = m) (hn : w.rangeAt b off (rs'.flatMap Cel.enc))
  (hin : ∀ i, i < m → ChO sa w (nthR rs' i) (nthC us i))
  (hm : 0 < m) (hbase : base ≤ w.heap.size) (h63 : n + m ≤ maxLen) (hbytes : (n + m) * by_ ≤ 140737488355328)
  (h : ∀ g cap w', OwCh base w' (some ⟨g, 0, none⟩) (n + m) cap (ts ++ us) → Below base w w' → wpList P ops Q rest (a.put o.dst (.slice (some ⟨g, 0, none⟩) (n + m) cap)) w') :
  wpList P ops Q (o :: rest) a w := by
 obtain ⟨rs, hrow, hlen, hvs⟩ := hown
 refine appC hE hgd s x ho w base sa n c _ hs hrow.2 b off m tc (rs'.flatMap Cel.enc) hx (by rw [flat_len, hl]; rfl) hn (flat_one _) hm hbase h63 hbytes ?_
 intro g cap w' h2 h3 hg h4
 have hrl := hrow.1
 refine h g cap w' ⟨rs ++ rs', ⟨by rw [List.length_append, hrl, hl], by rw [List.flatMap_append]; exact h2⟩, by rw [List.length_append, hlen, hul], fun i hi => ?_⟩ h3
 have key : ∀ {α : Type} [Cel α] (a' : Option Addr) (n' c' : Nat) (zs : List α), Rw w a' n' c' zs → Apt sa a' n' → Rw w' a' n' c' zs ∧ Apt (some ⟨g, 0, none⟩) a' n' := by
  intro α _ a' n' c' zs hz hzne
  have hrowne : ∀ b off, a' = some ⟨b, off, none⟩ → 0 < n' → some b ≠ (Value.slice sa n c).ownBlock := by
   intro b off ha hn e
   rcases hrow.2.2 with ⟨hv, _⟩ | ⟨g', cap', cur, hv, _⟩
   ·simp only [Value.slice.injEq] at hv; obtain ⟨rfl, _, _⟩ := hv; cases e
   ·simp only [Value.slice.injEq] at hv; obtain ⟨rfl, _, _⟩ := hv
    simp only [Value.ownBlock, Option.some.injEq] at e
    subst e
    exact hzne b off ha hn rfl
  refine ⟨hz.below (fun b off ha hn => hg.block b (hz.lt ha hn) (hrowne b off ha hn)), fun b off ha hn e => ?_⟩
  simp only [Option.some.injEq, Addr.mk.injEq, and_true] at e
  subst e
  rcases h4 with h4 | h4
  ·exact hrowne g off ha hn h4.symm
  ·have := hz.lt ha hn
   omega
 have one : ∀ (r : ChR) (t : Ch), ChO sa w r t → ChO (some ⟨g, 0, none⟩) w' r t := fun r t hr => by
  obtain ⟨⟨q1, q3⟩, q5, q6⟩ := hr
  obtain ⟨k1, k2⟩ := key _ _ _ _ q3 q6
  exact ⟨⟨q1, k1⟩, q5, k2⟩
 rcases Nat.lt_or_ge i n with hin' | hin'
 ·rw [nthR_app_left (by omega), nthC_left (by omega)]
  exact one _ _ (hvs i hin')
 ·rw [nthR_app_right (by omega), nthC_right hlen hin', hrl]
  exact one _ _ (hin (i - n) (by omega))
theorem appCh1 {P : Program} {T : TypeId} {z : Value} {by_ : Nat} (hE : ElS P T 90 z 2 by_) {ops : Array Oper} {rest : List Oper} {o : Oper} {a : Act} {Q : Exit → Act → World → Prop} (hgd : o.guard = none) (s x : Operand)
  (ho : o.op = .call { callee := .builtin .append, args := #[s, x], argTypes := #[T, T] })
  (w : World) (base : Nat) (sa : Option Addr) (n c : Nat) (ts : List Ch) (r : ChR) (u : Ch) (cs : Array Value) (hcs : cs.toList = Cel.enc r) (hs : a.eval s = .slice sa n c) (hown : OwCh base w sa n c ts)
  (hu : ChO sa w r u)
  (hx : a.eval x = .slice (some ⟨w.heap.size, 0, none⟩) 1 1) (hbase : base ≤ w.heap.size) (h63 : n + 1 ≤ maxLen) (hbytes : (n + 1) * by_ ≤ 140737488355328)
  (h : ∀ g cap w', OwCh base w' (some ⟨g, 0, none⟩) (n + 1) cap (ts ++ [u]) → Below base w w' → wpList P ops Q rest (a.put o.dst (.slice (some ⟨g, 0, none⟩) (n + 1) cap)) w') :
  wpList P ops Q (o :: rest) a (w.alloc (.cells cs 90)) := by
 have hE0 : Ext w (w.alloc (.cells cs 90)) := (Ext.refl w).alloc _
 have hr : (w.alloc (.cells cs 90)).rangeAt w.heap.size 0 ([r].flatMap Cel.enc) := by
  intro j v hv
  rw [cell_of_row (w.alloc (.cells cs 90)) w.heap.size (0 + j) cs 90 (0, 0) (World.alloc_heap_new w _), ← Array.getElem?_toList, hcs, Nat.zero_add]
  simpa using hv
 refine appChs hE hgd s x ho _ base sa n c ts hs (hown.ext hE0) w.heap.size 0 1 1 [u] [r] hx rfl rfl hr (fun i hi => ?_) (by omega) (by simp; omega) h63 hbytes ?_
 ·obtain rfl : i = 0 := by omega
  exact hu.ext hE0
 ·intro g cap w' h2 h3
  exact h g cap w' h2 (Below.trans ((Below.refl base w).alloc hbase _) h3)
theorem el_ch : ElS Tryz.prog 135 90 (.agg #[.slice none 0 0, .int .i64 0]) 2 32 := ⟨by kernel_rfl, by kernel_rfl, rfl, by decide⟩
open Go.RowKit Go.Sort Go.Shelf Go.Maps
theorem res_last (W : World) (b : Nat) (v0 v1 v2 v3 v4 : Value) (tmps : Array Value) (hb : tmps[2]?.getD undef = .pointer (some ⟨b, 0, none⟩)) (h : Bk W b 34 #[v0, v1, v2, v3, v4]) :
  (results Tryz.f35 tmps).run Tryz.prog W = .ok (.agg #[v0, v1, v2, v3, v4]) W := by
 have c0 := h.c 0 _ rfl
 have c1 := h.c 1 _ rfl
 have c2 := h.c 2 _ rfl
 have c3 := h.c 3 _ rfl
 have c4 := h.c 4 _ rfl
 simp [results, Tryz.results35, go_sem, hb, c0, c1, c2, c3, c4]
set_option maxHeartbeats 4000000 in
theorem last_any (a : Option Addr) (n c : Nat) (at_ : Int) (hs : List Hd) (w : World) (hr : Rw w a n c hs) (h0 : 0 < n) :
  Calls Tryz.prog 35 #[.agg #[.slice a n c, .int .i64 at_]] w fun e w' => e = .returned (hdV (nthR hs (n - 1))) ∧ Ext w w' := by
 have bd := hr.bd
 obtain ⟨m, rfl⟩ : ∃ m, n = m + 1 := ⟨n - 1, by omega⟩
 obtain ⟨x1, o1, rfl, hc1⟩ := hr.at (by omega)
 have hx : Ext w ((w.alloc (.cells #[.slice (some ⟨x1, o1, none⟩) (m + 1) c, .int .i64 at_] 90)).alloc (.cells #[.int .i64 0, .int .i64 0, .int .u64 0, .int .i64 0, .int .i64 0] 34)) := ((Ext.refl w).alloc _).alloc _
 have hq := rangeAt_ext (hc1 m (by omega)) hx
 rw [sz_hd] at hq
 have hA := (Bk.new w 90 #[.slice (some ⟨x1, o1, none⟩) (m + 1) c, .int .i64 at_]).ext ((Ext.refl _).alloc (.cells #[.int .i64 0, .int .i64 0, .int .u64 0, .int .i64 0, .int .i64 0] 34))
 have hB := Bk.new (w.alloc (.cells #[.slice (some ⟨x1, o1, none⟩) (m + 1) c, .int .i64 at_] 90)) 34 #[.int .i64 0, .int .i64 0, .int .u64 0, .int .i64 0, .int .i64 0]
 rw [show (w.alloc (.cells #[.slice (some ⟨x1, o1, none⟩) (m + 1) c, .int .i64 at_] 90)).heap.size = w.heap.size + 1 from Array.size_push _] at hB
 rw [show m + 1 - 1 = m from rfl]
 generalize nthR hs m = h at *
 clear hc1 hr
 go_enter Tryz.func35, Tryz.ntmps35
 go_upto_region 1 with fail
 generalize (w.alloc (.cells #[.slice (some ⟨x1, o1, none⟩) (m + 1) c, .int .i64 at_] 90)).alloc (.cells #[.int .i64 0, .int .i64 0, .int .u64 0, .int .i64 0, .int .i64 0] 34) = V at *
 obtain ⟨b1, hb1⟩ : ∃ b, w.heap.size = b := ⟨_, rfl⟩
 have HB1 := Lib.hid (show w.heap.size ≤ b1 by omega)
 rw [hb1] at hA hB ⊢
 clear hb1
 obtain ⟨b2, hb2⟩ : ∃ b, b1 + 1 = b := ⟨_, rfl⟩
 have HB2 := Lib.hid (show w.heap.size ≤ b2 by have := HB1.out; omega)
 rw [hb2] at hB ⊢
 clear hb2
 obtain ⟨d0, d1, d2, d3, d4⟩ := cells_hd hq
 clear hq
 have a0 := hA.c 0 _ rfl
 have b0_ := hB.c 0 _ rfl
 have b1_ := hB.c 1 _ rfl
 have b2_ := hB.c 2 _ rfl
 have b3_ := hB.c 3 _ rfl
 have b4_ := hB.c 4 _ rfl
 have fz := hB.free
 have g1 : ((m + 1 : Nat) : Int) - 1 = (m : Int) := by omega
 have g2 : (m : Int) < ((m + 1 : Nat) : Int) := by omega
 have g3 : (m : Int) < (m : Int) + 1 := by omega
 have g4 : ((m : Int) + 1) - 1 = (m : Int) := by omega
 go_wp2_with fail
 try simp only [Exit.inBlock, Exit.then]
 exact bodyPost_ret (res_last _ b2 _ _ _ _ _ _ (by rfl) (hB.set5 (.int .i64 h.o) (.int .i64 h.s) (.int .u64 h.r) (.int .i64 h.C) (.int .i64 h.S))) rfl ⟨rfl, hx.set5 HB2.out _ _ _ _ _⟩
open Go.RowKit Go.Sort Go.Shelf Go.Maps
theorem Rw.oneH {w : World} {vb : Nat} {h : Hd} (hx : Cel.ok h) (hb : Bk w vb 34 #[.int .i64 h.o, .int .i64 h.s, .int .u64 h.r, .int .i64 h.C, .int .i64 h.S]) : Rw w (some ⟨vb, 0, none⟩) 1 1 [h] := by
 refine ⟨rfl, Nat.le_refl _, by unfold maxLen; omega, by omega, fun i hi => ⟨vb, 0, rfl, ?_⟩, fun y hy => ?_⟩
 ·obtain rfl : i = 0 := by omega
  intro j v hv
  rw [Nat.zero_mul]
  simp only [Nat.zero_add]
  exact hb.c j v (by rw [← hv]; simp [nthR, Cel.enc, Hd.enc])
 ·rw [List.mem_singleton.1 hy]; exact hx
theorem appCh1p {P : Program} {T : TypeId} {z : Value} {by_ : Nat} (hE : ElS P T 90 z 2 by_) {ops : Array Oper} {rest : List Oper} {o : Oper} {a : Act} {Q : Exit → Act → World → Prop} (hgd : o.guard = none) (s x : Operand)
  (ho : o.op = .call { callee := .builtin .append, args := #[s, x], argTypes := #[T, T] })
  (w : World) (base : Nat) (sa : Option Addr) (n c : Nat) (ts : List Ch) (r : ChR) (u : Ch) (cs : Array Value) (hcs : cs.toList = Cel.enc r) (hs : a.eval s = .slice sa n c) (hown : OwCh base w sa n c ts)
  (hu : ChO sa w r u)
  (p : Nat) (hp : p = w.heap.size) (hx : a.eval x = .slice (some ⟨p, 0, none⟩) 1 1) (hbase : base ≤ w.heap.size) (h63 : n + 1 ≤ maxLen) (hbytes : (n + 1) * by_ ≤ 140737488355328)
  (h : ∀ g cap w', OwCh base w' (some ⟨g, 0, none⟩) (n + 1) cap (ts ++ [u]) → Below base w w' → wpList P ops Q rest (a.put o.dst (.slice (some ⟨g, 0, none⟩) (n + 1) cap)) w') :
  wpList P ops Q (o :: rest) a (w.alloc (.cells cs 90)) := by
 subst hp
 exact appCh1 hE hgd s x ho w base sa n c ts r u cs hcs hs hown hu hx hbase h63 hbytes h
def starts (from_ i : Int) (h : Hd) : Bool := decide (h.o = from_) && decide (i < h.s)
def levA (hs : List Hd) (from_ i : Int) : List Ch := (hs.filter (starts from_ i)).map fun h => ⟨[h], i⟩
theorem levA_snoc (hs : List Hd) (from_ i : Int) (k : Nat) (hk : k < hs.length) : levA (hs.take (k + 1)) from_ i = if starts from_ i (nthR hs k) then levA (hs.take k) from_ i ++ [⟨[nthR hs k], i⟩] else levA (hs.take k) from_ i := by
 unfold levA
 rw [List.take_succ_eq_append_getElem hk, List.filter_append, List.map_append, ← nthR_get hk]
 by_cases h : starts from_ i (nthR hs k) = true
 ·rw [if_pos h]; simp [h]
 ·rw [if_neg h]; simp [h]
theorem levA_len (hs : List Hd) (from_ i : Int) : (levA hs from_ i).length ≤ hs.length := by
 unfold levA
 rw [List.length_map]
 exact List.length_filter_le _ _
theorem res_search (W : World) (b : Nat) (v0 v1 z : Value) (tmps : Array Value) (hb : tmps[10]?.getD undef = .pointer (some ⟨b, 0, none⟩)) (h11 : tmps[11]?.getD undef = z) (h : Bk W b 90 #[v0, v1]) :
  (results Tryz.f34 tmps).run Tryz.prog W = .ok (.tuple #[.agg #[v0, v1], z]) W := by
 have c0 := h.c 0 _ rfl
 have c1 := h.c 1 _ rfl
 simp [results, Tryz.results34, go_sem, hb, h11, c0, c1]
theorem Rw.otherB {α : Type} [Cel α] {W : World} {p : Nat} {a : Option Addr} {m c : Nat} {xs : List α} (h : Rw W a m c xs) (hne : ∀ b off, a = some ⟨b, off, none⟩ → 0 < m → b ≠ p) (i : Nat) (v : Value) : Rw (W.setCell ⟨p, i, none⟩ v) a m c xs :=
 h.below (fun b off e h0 => heap_setCell_other W ⟨p, i, none⟩ b v (fun e2 => hne b off e h0 e2))
set_option maxHeartbeats 8000000 in
theorem search_one {b mb : Nat} {a : Option Addr} {n c : Nat} {os : List OfR} {es : Nat → List En} {ha : Option Addr} {hn hc : Nat} {hs : List Hd} {w : World} (H : Arc w b mb a n c os es ha hn hc hs) (from_ i to_ k : Int) (hi : (Lit.int .i64 i).wf = true)
  (h : Hd) (hl : 0 < (levA hs from_ i).length) (hh : nthC (levA hs from_ i) 0 = ⟨[h], i⟩) (hto : h.o = to_) (hks : k < h.s) (hik : i < k) :
  Calls Tryz.prog 34 #[.pointer (some ⟨b, 0, none⟩), .int .i64 from_, .int .i64 i, .int .i64 to_, .int .i64 k] w fun e w' => ∃ ca cc, e = .returned (.tuple #[.agg #[.slice ca 1 cc, .int .i64 i], .bool true]) ∧ Rw w' ca 1 cc [h] ∧ Ext w w' := by
 have HIN := Lib.hid H.inn.hrow
 have hfew := H.inn.hfew
 have bd := H.inn.hrow.bd
 have HLEN := Lib.hid H.inn.hrow.hlen
 have hcb := H.box
 have HHH := Lib.hid (And.intro hl hh)
 have HEQ := Lib.hid hto
 clear H hl hh hto
 have hR := Bk.new w 90 #[.slice none 0 0, .int .i64 0]
 have hx : Ext w (w.alloc (.cells #[.slice none 0 0, .int .i64 0] 90)) := (Ext.refl w).alloc _
 have c1 := (hcb.ext hx).c 1 _ rfl
 go_enter Tryz.func34, Tryz.ntmps34
 go_upto_region 2 with fail
 clear hcb
 generalize w.alloc (.cells #[.slice none 0 0, .int .i64 0] 90) = V at *
 obtain ⟨b10, hb10⟩ : ∃ b, w.heap.size = b := ⟨_, rfl⟩
 have HB10 := Lib.hid hb10
 rw [hb10] at hR ⊢
 clear hb10
 have HLT : Hid (b10 < V.heap.size) := Lib.hid hR.lt
 go_wp2_with fail
 clear c1
 go_loopw [12, 24] (fun lv ix wr => ∃ (j : Nat) (la : Option Addr) (ln lc : Nat), j ≤ hn ∧ ix = .int .i64 j ∧ lv = .slice la ln lc ∧ OwCh V.heap.size wr la ln lc (levA (hs.take j) from_ i) ∧ Bk wr b10 90 #[.slice none 0 0, .int .i64 0] ∧ Ext V wr) (fun _ ix _ => hn - (intOf ix).toNat)
 case atStart => exact ⟨0, none, 0, 0, by omega, rfl, rfl, OwCh.nil _ _, hR, Ext.refl _⟩
 case round =>
  clear hR
  obtain ⟨j, la, ln, lc, hj, rfl, rfl, ho, hR, hE⟩ := hrel
  by_cases hlt : j < hn
  ·obtain ⟨x1, o1, rfl, hc1⟩ := HIN.out.at (by omega)
   have hr := rangeAt_ext (hc1 j hlt) (hx.trans hE)
   rw [sz_hd] at hr
   clear hc1
   have HSN := Lib.hid (levA_snoc hs from_ i j (by rw [HLEN.out]; exact hlt))
   have HLL : Hid (ln ≤ j) := Lib.hid (by obtain ⟨_, _, e1, _⟩ := ho; have e2 := levA_len (hs.take j) from_ i; rw [List.length_take] at e2; omega)
   have HOK := Lib.hid (HIN.out.wfAt hlt)
   generalize nthR hs j = g at *
   obtain ⟨d0, d1, d2, d3, d4⟩ := cells_hd hr
   clear hr
   have hO := Bk.new wr 34 #[.int .i64 g.o, .int .i64 g.s, .int .u64 g.r, .int .i64 g.C, .int .i64 g.S]
   have hx1 : Ext wr (wr.alloc (.cells #[.int .i64 g.o, .int .i64 g.s, .int .u64 g.r, .int .i64 g.C, .int .i64 g.S] 34)) := (Ext.refl wr).alloc _
   go_upto_region 5 with fail
   clear d0 d1 d2 d3 d4
   replace ho := ho.ext hx1
   replace hR := hR.ext hx1
   replace hE := hE.trans hx1
   clear hx1
   generalize wr.alloc (.cells #[.int .i64 g.o, .int .i64 g.s, .int .u64 g.r, .int .i64 g.C, .int .i64 g.S] 34) = V5 at *
   obtain ⟨b14, hb14⟩ : ∃ b, wr.heap.size = b := ⟨_, rfl⟩
   rw [hb14] at hO ⊢
   clear hb14
   have e0 := hO.c 0 _ rfl
   have e1 := hO.c 1 _ rfl
   have e2 := hO.c 2 _ rfl
   have e3 := hO.c 3 _ rfl
   have e4 := hO.c 4 _ rfl
   by_cases hst : starts from_ i g = true
   ·have hst2 := hst
    unfold starts at hst2
    simp only [Bool.and_eq_true, decide_eq_true_eq] at hst2
    have k1 : (g.o == from_) = true := by simp [hst2.1]
    have k2 : i < g.s := hst2.2
    have k3 : decide (i < g.s) = true := decide_eq_true k2
    rw [if_pos hst] at HSN
    have hlo := Lib.hid ho
    have hen := Lib.hid hE
    have hrr := Lib.hid hR
    have hne : Hid (∀ b, b = V5.heap.size → la ≠ some ⟨b, 0, none⟩) := Lib.hid (fun b hb e => by
     rcases ho.headAt with ⟨h1, _⟩ | ⟨g9, h1, _, h3⟩
     ·rw [h1] at e; cases e
     ·rw [h1] at e; simp only [Option.some.injEq, Addr.mk.injEq, and_true] at e; omega)
    clear hst hst2 ho hE hR
    have HW6 : Hid (OwCh V.heap.size (V5.alloc (.cells #[.int .i64 g.o, .int .i64 g.s, .int .u64 g.r, .int .i64 g.C, .int .i64 g.S] 34)) la ln lc (levA (hs.take j) from_ i)) := Lib.hid (hlo.out.ext ((Ext.refl _).alloc _))
    have HCO : Hid (ChO la (V5.alloc (.cells #[.int .i64 g.o, .int .i64 g.s, .int .u64 g.r, .int .i64 g.C, .int .i64 g.S] 34)) ⟨some ⟨V5.heap.size, 0, none⟩, 1, 1, i⟩ ⟨[g], i⟩) := Lib.hid ⟨⟨rfl, Rw.oneH HOK.out (Bk.new V5 34 #[.int .i64 g.o, .int .i64 g.s, .int .u64 g.r, .int .i64 g.C, .int .i64 g.S])⟩, hi, fun b off e h0 => by simp only [Option.some.injEq, Addr.mk.injEq, and_true] at e; exact hne.out b e.1.symm⟩
    have HSZ : Hid (V.heap.size ≤ (V5.alloc (.cells #[.int .i64 g.o, .int .i64 g.s, .int .u64 g.r, .int .i64 g.C, .int .i64 g.S] 34)).heap.size) := Lib.hid (Nat.le_trans hen.out.sz (Nat.le_of_lt (lt_alloc _ _)))
    go_wp2_with (at_builtin; refine appCh1p el_ch rfl _ _ rfl (V5.alloc (.cells #[.int .i64 g.o, .int .i64 g.s, .int .u64 g.r, .int .i64 g.C, .int .i64 g.S] 34)) V.heap.size _ _ _ _ ⟨some ⟨V5.heap.size, 0, none⟩, 1, 1, i⟩ ⟨[g], i⟩ _ rfl rfl HW6.out HCO.out (V5.heap.size + 1) (Array.size_push _).symm rfl HSZ.out (by have := HLL.out; unfold maxLen; omega) (by have := HLL.out; omega) ?_; intro g7 c7 w7 ho7 hB7; refine hold ?_)
    refine held ?_
    have hE7 : Ext V w7 := Below.trans (hen.out.alloc _) hB7
    have hR7 : Bk w7 b10 90 #[.slice none 0 0, .int .i64 0] := (hB7.block b10 HLT.out).trans (hrr.out.ext ((Ext.refl _).alloc _))
    clear e0 e1 e2 e3 e4 k1 k2 k3 hO
    go_wp2_with fail
    exact ⟨⟨j + 1, some ⟨g7, 0, none⟩, ln + 1, c7, by omega, by go_num, rfl, by rw [HSN.out]; exact ho7, hR7, hE7⟩, by simp only [intOf]; omega⟩
   ·rw [if_neg hst] at HSN
    by_cases hgo : g.o = from_
    ·have k1 : (g.o == from_) = true := by simp [hgo]
     have k2 : ¬ (i < g.s) := by intro h9; exact hst (by unfold starts; simp [hgo, h9])
     have k3 : decide (i < g.s) = false := decide_eq_false k2
     clear hgo hst
     go_wp2_with fail
     exact ⟨⟨j + 1, la, ln, lc, by omega, by go_num, rfl, by rw [HSN.out]; exact ho, hR, hE⟩, by simp only [intOf]; omega⟩
    ·have k1 : (g.o == from_) = false := by simp [hgo]
     clear hgo hst
     go_wp2_with fail
     exact ⟨⟨j + 1, la, ln, lc, by omega, by go_num, rfl, by rw [HSN.out]; exact ho, hR, hE⟩, by simp only [intOf]; omega⟩
  ·obtain rfl : hn = j := by omega
   rw [List.take_of_length_le (by rw [HLEN.out]; exact Nat.le_refl _)] at ho
   have HCH : Hid (Chs wr la ln lc (levA hs from_ i)) := Lib.hid (ho.chs (by have e2 := levA_len hs from_ i; have e3 := HLEN.out; obtain ⟨_, _, e1, _⟩ := ho; omega))
   have hl0 : 0 < ln := by have h1 := HHH.out.1; rw [HCH.out.hlen] at h1; exact h1
   clear ho
   obtain ⟨WL, rfl⟩ : ∃ W : World, W = wr := ⟨wr, rfl⟩
   go_wp2_with fail
   go_loopw [12, 46] (fun lv ix w2 => lv = .slice la ln lc ∧ ix = .int .i64 0 ∧ Hid (Ext WL w2)) (fun _ ix _ => 0)
   case atStart => exact ⟨rfl, rfl, Lib.hid (Ext.refl _)⟩
   case round =>
    obtain ⟨rfl, rfl, hx2⟩ := hrel
    go_wp2_with fail
    go_loopw [50] (fun ix w3 => ix = .int .i64 0 ∧ Hid (Ext WL w3)) (fun ix _ => 0)
    case atStart => exact ⟨rfl, hx2⟩
    case round =>
     clear hx2
     obtain ⟨rfl, hx2⟩ := hrel
     obtain ⟨x1, o1, rfl, hc1⟩ := (HCH.out.ext hx2.out).at hl0
     obtain ⟨r, hr, hrl, hrok⟩ := hc1 0 hl0
     rw [Nat.zero_mul, Nat.add_zero] at hr
     rw [HHH.out.2] at hrl
     obtain ⟨hat, hrw⟩ := hrl
     obtain ⟨ra, rn, rc, rat⟩ := r
     simp only at hat hrw hrok
     subst hat
     obtain ⟨d0, d1⟩ := cells_ch hr
     simp only at d0 d1
     have hn1 : rn = 1 := hrw.hlen.symm
     subst hn1
     clear hr hc1
     have hC := Bk.new wr 90 #[.slice ra 1 rc, .int .i64 rat]
     have hx3 : Ext wr (wr.alloc (.cells #[.slice ra 1 rc, .int .i64 rat] 90)) := (Ext.refl wr).alloc _
     have hrw3 := hrw.ext hx3
     have hxx := (hx.trans (hE.trans hx2.out)).trans hx3
     have hR3 := (hR.ext hx2.out).ext hx3
     go_upto_region 14 with fail
     clear d0 d1
     generalize wr.alloc (.cells #[.slice ra 1 rc, .int .i64 rat] 90) = V8 at *
     obtain ⟨b17, hb17⟩ : ∃ b, wr.heap.size = b := ⟨_, rfl⟩
     rw [hb17] at hC ⊢
     clear hb17 hR hE hx3 hx2
     have e0 := hC.c 0 _ rfl
     have e1 := hC.c 1 _ rfl
     have HLA := Lib.hid (last_any ra 1 rc rat [h] V8 hrw3 (by omega))
     unfold hdV at HLA
     rw [show nthR [h] (1 - 1) = h from rfl] at HLA
     go_wp2_with (go_at_call 35; refine HLA.out.mono ?_; rintro e9 w9 ⟨rfl, hx9⟩; refine hold ?_)
     refine held ?_
     clear e0 e1
     have hO := Bk.new w9 34 #[.int .i64 h.o, .int .i64 h.s, .int .u64 h.r, .int .i64 h.C, .int .i64 h.S]
     have hx10 : Ext w9 (w9.alloc (.cells #[.int .i64 h.o, .int .i64 h.s, .int .u64 h.r, .int .i64 h.C, .int .i64 h.S] 34)) := (Ext.refl w9).alloc _
     go_upto_region 15 with fail
     have hC10 := (hC.ext hx9).ext hx10
     have hR10 := (hR3.ext hx9).ext hx10
     have hrw10 := (hrw3.ext hx9).ext hx10
     have hxa := (hxx.trans hx9).trans hx10
     clear hC hR3 hrw3 hxx hx9 hx10
     generalize w9.alloc (.cells #[.int .i64 h.o, .int .i64 h.s, .int .u64 h.r, .int .i64 h.C, .int .i64 h.S] 34) = V9 at *
     obtain ⟨b18, hb18⟩ : ∃ b, w9.heap.size = b := ⟨_, rfl⟩
     rw [hb18] at hO ⊢
     clear hb18
     have k1 : (h.o == to_) = true := by simp [HEQ.out]
     have k2 : decide (k < h.s) = true := decide_eq_true hks
     have k3 : decide (rat < k) = true := decide_eq_true hik
     have e0 := hO.c 0 _ rfl
     have e1 := hO.c 1 _ rfl
     have c0 := hC10.c 0 _ rfl
     have c1 := hC10.c 1 _ rfl
     have r0 := hR10.c 0 _ rfl
     have r1 := hR10.c 1 _ rfl
     have rf := hR10.free
     go_wp2_with fail
     try simp only [Exit.inBlock, Exit.then]
     have hne : ∀ x o, ra = some ⟨x, o, none⟩ → 0 < 1 → x ≠ b10 := by
      intro x o e _ exx
      subst exx
      obtain ⟨x2, o2, e2, hq⟩ := hrw10.at (by omega)
      rw [e] at e2
      simp only [Option.some.injEq, Addr.mk.injEq, and_true] at e2
      obtain ⟨rfl, rfl⟩ := e2
      obtain ⟨q0, q1, _⟩ := cells_hd (hq 0 (by omega))
      have q0' := (cell_of_row V9 x _ _ _ (0, 0) hR10).symm.trans q0
      have q1' := (cell_of_row V9 x _ _ _ (0, 0) hR10).symm.trans q1
      rcases o with _ | _ | o
      ·simp at q0'
      ·simp at q1'
      ·simp at q0'
     exact bodyPost_ret (res_search _ b10 _ _ (.bool true) _ (by rfl) (by rfl) (hR10.set2 (.slice ra 1 rc) (.int .i64 rat))) rfl ⟨ra, rc, rfl, (hrw10.otherB hne 0 _).otherB hne 1 _, hxa.set2 (by rw [HB10.out]; exact Nat.le_refl _) _ _⟩
end Go.Proofs.YtacicanjmleikaaGreatDoor
