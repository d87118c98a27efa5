/-
  example, of the laws of chapter 20, walked. Written by wip/gen_eh.py.
-/
import Derived.Test.YtcohdojfbnijpaaDoorEG
namespace Go.Proofs.YtcohdojfbnijpaaDoor
open Go.RowKit Go.Sort Go.Shelf
set_option linter.unusedSimpArgs false
set_option linter.unusedVariables false
set_option maxRecDepth 100000

theorem lenlit15 {vs : List Value} (h : vs.length = 15) : ∃ x0 x1 x2 x3 x4 x5 x6 x7 x8 x9 x10 x11 x12 x13 x14 : Value, vs = [x0, x1, x2, x3, x4, x5, x6, x7, x8, x9, x10, x11, x12, x13, x14] := by
  obtain ⟨x0, v0, rfl, h0⟩ := len_cons h
  obtain ⟨x1, v1, rfl, h1⟩ := len_cons h0
  obtain ⟨x2, v2, rfl, h2⟩ := len_cons h1
  obtain ⟨x3, v3, rfl, h3⟩ := len_cons h2
  obtain ⟨x4, v4, rfl, h4⟩ := len_cons h3
  obtain ⟨x5, v5, rfl, h5⟩ := len_cons h4
  obtain ⟨x6, v6, rfl, h6⟩ := len_cons h5
  obtain ⟨x7, v7, rfl, h7⟩ := len_cons h6
  obtain ⟨x8, v8, rfl, h8⟩ := len_cons h7
  obtain ⟨x9, v9, rfl, h9⟩ := len_cons h8
  obtain ⟨x10, v10, rfl, h10⟩ := len_cons h9
  obtain ⟨x11, v11, rfl, h11⟩ := len_cons h10
  obtain ⟨x12, v12, rfl, h12⟩ := len_cons h11
  obtain ⟨x13, v13, rfl, h13⟩ := len_cons h12
  obtain ⟨x14, v14, rfl, h14⟩ := len_cons h13
  obtain rfl := len_nil h14
  exact ⟨x0, x1, x2, x3, x4, x5, x6, x7, x8, x9, x10, x11, x12, x13, x14, rfl⟩


/-- The table of an example. -/
def exL : List Int → List Lp
  | [] => []
  | [a] => [⟨a, 1⟩]
  | a :: b :: _ => [⟨a, 1⟩, ⟨b, -1⟩]
theorem exL_len {ds : List Int} (h : ds.length ≤ 2) : (exL ds).length = ds.length := by
  rcases ds with _ | ⟨a, _ | ⟨b, _ | ⟨c, ds⟩⟩⟩ <;> simp [exL] at *
theorem exL_0 {ds : List Int} (h0 : 0 < ds.length) : (exL ds).take 1 = [] ++ [⟨nth ds 0, 1⟩] := by
  rcases ds with _ | ⟨a, _ | ⟨b, ds⟩⟩
  · simp at h0
  · rfl
  · rfl
theorem exL_1 {ds : List Int} (h0 : 1 < ds.length) : (exL ds).take 2 = (exL ds).take 1 ++ [⟨nth ds 1, -1⟩] := by
  rcases ds with _ | ⟨a, _ | ⟨b, ds⟩⟩
  · simp at h0
  · simp at h0
  · rfl
theorem exL_wf {ds : List Int} (h : ∀ x ∈ ds, (Lit.int .i64 x).wf = true) : ∀ x ∈ exL ds, Cel.ok x := by
  rcases ds with _ | ⟨a, _ | ⟨b, ds⟩⟩
  · intro x hx; cases hx
  · intro x hx
    simp only [exL, List.mem_cons, List.not_mem_nil, or_false] at hx
    subst hx
    exact ⟨h a (by simp), rfl⟩
  · intro x hx
    simp only [exL, List.mem_cons, List.not_mem_nil, or_false] at hx
    rcases hx with rfl | rfl
    · exact ⟨h a (by simp), rfl⟩
    · exact ⟨h b (by simp), rfl⟩
def RLp (B : Nat) (x : Lp) : RelL Ext := ⟨none, fun _ v W => ∃ b, v = .slice (some ⟨b, 0, none⟩) 1 1 ∧ B ≤ b ∧ W.heap[b]? = some (.cells #[.int .i64 x.d, .int .i64 x.s] 52 (0, 0)), fun _ v W W' ⟨b, h1, h2, h3⟩ hE => ⟨b, h1, h2, (hE.block b (Array.getElem?_eq_some_iff.1 h3).1).trans h3⟩⟩
def RAp (B n : Nat) (l : List Lp) : RelL Ext := ⟨none, fun _ v W => ∃ g c, v = .slice (some ⟨g, 0, none⟩) n c ∧ OwR 52 B W (some ⟨g, 0, none⟩) n c l, fun u v W W' ⟨g, c, h1, h2⟩ hE => ⟨g, c, h1, h2.ext hE⟩⟩
theorem RLp_set {B pb : Nat} {x : Lp} {W : World} {u v z : Value} (h : (RLp B x).r u v W) (hb : pb < B) : (RLp B x).r u v (W.setCell ⟨pb, 3, none⟩ z) := by
  obtain ⟨b, h1, h2, h3⟩ := h
  exact ⟨b, h1, h2, (heap_setCell_other W ⟨pb, 3, none⟩ b z (by simp only; omega)).trans h3⟩
theorem RAp_set {B pb n : Nat} {l : List Lp} {W : World} {u v z : Value} (h : (RAp B n l).r u v W) (hb : pb < B) : (RAp B n l).r u v (W.setCell ⟨pb, 3, none⟩ z) := by
  obtain ⟨g, c, h1, h2⟩ := h
  exact ⟨g, c, h1, h2.setOther hb 3 z⟩
theorem rw1_of_block {W : World} {b : Nat} {x : Lp} (h : W.heap[b]? = some (.cells #[.int .i64 x.d, .int .i64 x.s] 52 (0, 0))) (hw : Cel.ok x) : Rw W (some ⟨b, 0, none⟩) 1 1 [x] := by
  refine Rw.ofFlat rfl (Nat.le_refl _) (by unfold maxLen; omega) (by omega) ?_ (by intro y hy; rw [List.mem_singleton.1 hy]; exact hw)
  intro j v hv
  rw [Nat.zero_add]
  rcases j with _ | _ | j
  · exact cell_of_block h 0 v hv
  · exact cell_of_block h 1 v hv
  · simp [Cel.enc, Lp.enc] at hv
/-- 'append(s, x)', x a leap second that lies in a block of its own; it tells which blocks stay. -/
theorem appL1 {P : Program} {T E : TypeId} {z : Value} {by_ : Nat} (hE : ElS P T E z (Cel.sz Lp) by_) {ops : Array Oper} {rest : List Oper} {o : Oper} {a : Act} {Q : Exit → Act → World → Prop} (hgd : o.guard = none) (s x : Operand)
    (ho : o.op = .call { callee := .builtin .append, args := #[s, x], argTypes := #[T, T] })
    (w : World) (base : Nat) (sa : Option Addr) (n c : Nat) (cs : List Value) (hs : a.eval s = .slice sa n c) (hown : w.ownsRow base E (Cel.sz Lp) (.slice sa n c) n cs)
    (b tc : Nat) (y : Lp) (hx : a.eval x = .slice (some ⟨b, 0, none⟩) 1 tc) (ht : Rw w (some ⟨b, 0, none⟩) 1 tc [y]) (hbase : base ≤ w.heap.size) (h63 : n + 1 ≤ maxLen) (hbytes : (n + 1) * by_ ≤ 140737488355328)
    (h : ∀ g cap w', w'.ownsRow base E (Cel.sz Lp) (.slice (some ⟨g, 0, none⟩) (n + 1) cap) (n + 1) (cs ++ Cel.enc y) → Below base w w' → w.grownBy w' (Value.slice sa n c).ownBlock → wpList P ops Q rest (a.put o.dst (.slice (some ⟨g, 0, none⟩) (n + 1) cap)) w') :
    wpList P ops Q (o :: rest) a w := by
  refine appC hE hgd s x ho w base sa n c cs hs hown b 0 1 tc (Cel.enc y) hx (by rw [Cel.len]; omega) (by have := ht.flat; simpa using this) (fun u hu => Cel.one y u hu) (by omega) hbase h63 hbytes ?_
  intro g cap w' h2 h3 h4 _
  exact h g cap w' h2 h3 h4
theorem res_exm (W : World) (b : Nat) (v0 v1 v2 v3 v4 v5 : Value) (tmps : Array Value) (h4 : tmps[6]?.getD undef = .pointer (some ⟨b, 0, none⟩)) (h : Bk W b 27 #[v0, v1, v2, v3, v4, v5]) :
    (results Tryd.f38 tmps).run Tryd.prog W = .ok (.agg #[v0, v1, v2, v3, v4, v5]) W := by
  have c0 := h.c 0 _ rfl
  have c1 := h.c 1 _ rfl
  have c2 := h.c 2 _ rfl
  have c3 := h.c 3 _ rfl
  have c4 := h.c 4 _ rfl
  have c5 := h.c 5 _ rfl
  simp [results, Tryd.results38, go_sem, h4, c0, c1, c2, c3, c4, c5]
set_option maxHeartbeats 16000000 in
theorem exm_any (v f : Int) (a : Option Addr) (n c : Nat) (ds : List Int) (w : World) (h1 : Sl .i64 w a n c ds) (hn : n ≤ 2) :
    Calls Tryd.prog 38 #[.int .i64 v, .int .i64 f, .slice a n c] w fun e w' => ∃ a' c', e = .returned (.agg #[.int .i64 v, .int .i64 f, .int .i64 3000000000000000, .slice a' n c', .int .i64 0, .int .i64 0]) ∧ Rw w' a' n c' (exL ds) ∧ Ext w w' := by
  have bd := h1.bd
  have HL := Lib.hid h1.hlen
  have hZ := Bk.new w 27 #[.int .i64 0, .int .i64 0, .int .i64 0, .slice none 0 0, .int .i64 0, .int .i64 0]
  have hP := Bk.new (w.alloc (.cells #[.int .i64 0, .int .i64 0, .int .i64 0, .slice none 0 0, .int .i64 0, .int .i64 0] 27)) 27 #[.int .i64 v, .int .i64 f, .int .i64 3000000000000000, .slice none 0 0, .int .i64 0, .int .i64 0]
  rw [World.size_alloc] at hP
  replace hZ := hZ.ext ((Ext.refl _).alloc (.cells #[.int .i64 v, .int .i64 f, .int .i64 3000000000000000, .slice none 0 0, .int .i64 0, .int .i64 0] 27))
  have hE : Ext w ((w.alloc (.cells #[.int .i64 0, .int .i64 0, .int .i64 0, .slice none 0 0, .int .i64 0, .int .i64 0] 27)).alloc (.cells #[.int .i64 v, .int .i64 f, .int .i64 3000000000000000, .slice none 0 0, .int .i64 0, .int .i64 0] 27)) := ((Ext.refl w).alloc _).alloc _
  go_enter Tryd.func38, Tryd.ntmps38
  go_upto_region 2 with fail
  have hsz : ((w.alloc (.cells #[.int .i64 0, .int .i64 0, .int .i64 0, .slice none 0 0, .int .i64 0, .int .i64 0] 27)).alloc (.cells #[.int .i64 v, .int .i64 f, .int .i64 3000000000000000, .slice none 0 0, .int .i64 0, .int .i64 0] 27)).heap.size = w.heap.size + 2 := by simp
  generalize (w.alloc (.cells #[.int .i64 0, .int .i64 0, .int .i64 0, .slice none 0 0, .int .i64 0, .int .i64 0] 27)).alloc (.cells #[.int .i64 v, .int .i64 f, .int .i64 3000000000000000, .slice none 0 0, .int .i64 0, .int .i64 0] 27) = W at *
  obtain ⟨zb0, hz0⟩ : ∃ z, w.heap.size = z := ⟨_, rfl⟩
  obtain ⟨pb, hp0⟩ : ∃ z, w.heap.size + 1 = z := ⟨_, rfl⟩
  have hzp : zb0 + 1 = pb := by omega
  have hwz : w.heap.size ≤ pb + 1 := by omega
  have hpw : w.heap.size ≤ pb := by omega
  have hzw : w.heap.size ≤ zb0 := by omega
  rw [hp0] at hP
  rw [hz0] at hZ
  rw [hz0, hzp]
  clear hz0 hp0 hsz
  obtain ⟨zb, hzb⟩ : ∃ z, z = zb0 := ⟨_, rfl⟩
  rw [← hzb] at hZ hzp hzw ⊢
  clear hzb
  have hne : pb ≠ zb := by omega
  have hzl : zb < pb + 1 := by omega
  go_wp2_with fail
  go_loopw [8] (fun i wr => ∃ (k : Nat) (aa : Option Addr) (cc : Nat), k ≤ n ∧ i = .int .i64 (k : Int) ∧ Bk wr pb 27 #[.int .i64 v, .int .i64 f, .int .i64 3000000000000000, .slice aa k cc, .int .i64 0, .int .i64 0] ∧ Bk wr zb 27 #[.int .i64 0, .int .i64 0, .int .i64 0, .slice none 0 0, .int .i64 0, .int .i64 0] ∧ OwR 52 (pb + 1) wr aa k cc ((exL ds).take k) ∧ Ext w wr) (fun i _ => n - (intOf i).toNat)
  case atStart => exact ⟨0, none, 0, by omega, rfl, hP, hZ, OwR.nil _ _ _, hE⟩
  case round =>
    obtain ⟨k, aa, cc, hk, rfl, hPr, hZr, ho, hx⟩ := hrel
    have hzb1 : pb + 1 ≤ wr.heap.size := hPr.lt
    have hpz : pb < wr.heap.size := hPr.lt
    by_cases hlt : k < n
    · obtain ⟨x1, o1, rfl, hc1⟩ := h1.at (by omega)
      by_cases hk0 : k = 0
      · subst hk0
        have dc := hc1 0 hlt
        rw [Nat.add_zero] at dc
        have hwk := h1.wfAt hlt
        obtain ⟨Lk, hLk⟩ : ∃ L, L = ([] : List Lp) := ⟨_, rfl⟩
        have HT : Hid ((exL ds).take 1 = Lk ++ [⟨nth ds 0, 1⟩]) := Lib.hid (by rw [hLk]; exact exL_0 (ds := ds) (by rw [HL.out]; exact hlt))
        rw [List.take_zero, ← hLk] at ho
        clear hLk hc1
        generalize nth ds 0 = dk at *
        have hWK : Cel.ok (⟨dk, 1⟩ : Lp) := ⟨hwk, rfl⟩
        have HWK := Lib.hid hWK
        go_upto_region 5 with fail
        refine region_relyF (fun listed W' => (Ext w W' ∧ Bk W' zb 27 #[.int .i64 0, .int .i64 0, .int .i64 0, .slice none 0 0, .int .i64 0, .int .i64 0]) ∧ (listed 12 = false → Ext wr W') ∧ (listed 14 = false → Bk W' pb 27 #[.int .i64 v, .int .i64 f, .int .i64 3000000000000000, .slice aa 0 cc, .int .i64 0, .int .i64 0]) ∧ (listed 14 = true → ∃ a' c', Bk W' pb 27 #[.int .i64 v, .int .i64 f, .int .i64 3000000000000000, .slice a' 1 c', .int .i64 0, .int .i64 0] ∧ OwR 52 (pb + 1) W' a' 1 c' (Lk ++ [⟨dk, 1⟩]))) [some 18, some 19, some 20, some 21, some 22, some 23, some 24, some 25, some 26, some 27, some 28, some 29, some 30, some 31, none] [[], [0], [], [], [2, 3], [2, 3, 4], [], [6], [6, 7], [6, 7, 8], [2, 3, 4, 5, 6, 7, 8, 9], [2, 3, 4, 5, 6, 7, 8, 9, 10], [0, 1, 2, 3, 4, 5, 6, 7, 8, 9, 10, 11], [0, 1, 2, 3, 4, 5, 6, 7, 8, 9, 10, 11, 12], [0, 1, 2, 3, 4, 5, 6, 7, 8, 9, 10, 11, 12, 13]] [[], [0], [], [], [2, 3], [4], [], [6], [7], [8], [5, 9], [10], [1, 11], [], [12, 13]] [none, none, none, none, none, none, none, none, none, none, none, none, none, none, none] [false, false, false, false, false, false, false, false, false, false, false, false, false, false, false] [.one (.pointer (some ⟨pb, 3, none⟩)), .one (.slice aa 0 cc), .one (.slice (some ⟨x1, o1, none⟩) n c), .one (.int .i64 0), .one (.pointer (some ⟨x1, o1, none⟩)), .one (.int .i64 dk), .one (.int .i64 0), .one (.int .i64 0), .one (.int .i64 0), .one (.int .i64 1), .one (.agg #[.int .i64 dk, .int .i64 1]), RLp wr.heap.size ⟨dk, 1⟩, RAp (pb + 1) 1 (Lk ++ [⟨dk, 1⟩]), .one (.pointer (some ⟨pb, 3, none⟩)), .any] (by kernel_rfl) (by kernel_rfl) rfl ⟨⟨hx.drew, hZr⟩, fun _ => (Ext.refl wr).drew, fun _ => hPr, fun h => absurd h (by decide)⟩ ?_ ?_
        · refine stepsF_cons ?_ ?_
          · intro listed vs W' hl hI hd hs hn hu hz ho9
            refine hold ?_
            obtain ⟨x0, x1, x2, x3, x4, x5, x6, x7, x8, x9, x10, x11, x12, x13, x14, rfl⟩ := lenlit15 hl; clear hl
            refine held ?_
            simp only [putAll, Act.put, List.setIfInBounds_toArray, List.set_cons_succ, List.set_cons_zero]
            go_wp2_with fail
            exact relyE_done _ rfl rfl (Ext.refl _) ⟨hI.1, fun h => hI.2.1 (updE_false2 h), fun h => hI.2.2.1 (updE_false2 h), fun h => hI.2.2.2 (by rwa [updE_ne (by decide)] at h)⟩
          refine stepsF_cons ?_ ?_
          · intro listed vs W' hl hI hd hs hn hu hz ho9
            refine hold ?_
            obtain ⟨x0, x1, x2, x3, x4, x5, x6, x7, x8, x9, x10, x11, x12, x13, x14, rfl⟩ := lenlit15 hl; clear hl
            simp only [factsL, atL, refV, List.getElem?_cons_succ, List.getElem?_cons_zero, List.getD_cons_succ, List.getD_cons_zero, RelL.one, RelL.any, RelL.blk, RelL.law, RLp, RAp] at hd
            obtain ⟨rfl, -⟩ := hd
            refine held ?_
            simp only [putAll, Act.put, List.setIfInBounds_toArray, List.set_cons_succ, List.set_cons_zero]
            have h14z : listed 14 = false := by cases h : listed 14 with | false => rfl | true => exact absurd (by decide) (hu 14 h)
            have hP1 := hI.2.2.1 h14z
            have p3 := hP1.c 3 _ rfl
            go_wp2_with fail
            exact relyE_done _ rfl rfl (Ext.refl _) ⟨hI.1, fun h => hI.2.1 (updE_false2 h), fun h => hI.2.2.1 (updE_false2 h), fun h => hI.2.2.2 (by rwa [updE_ne (by decide)] at h)⟩
          refine stepsF_cons ?_ ?_
          · intro listed vs W' hl hI hd hs hn hu hz ho9
            refine hold ?_
            obtain ⟨x0, x1, x2, x3, x4, x5, x6, x7, x8, x9, x10, x11, x12, x13, x14, rfl⟩ := lenlit15 hl; clear hl
            refine held ?_
            simp only [putAll, Act.put, List.setIfInBounds_toArray, List.set_cons_succ, List.set_cons_zero]
            go_wp2_with fail
            exact relyE_done _ rfl rfl (Ext.refl _) ⟨hI.1, fun h => hI.2.1 (updE_false2 h), fun h => hI.2.2.1 (updE_false2 h), fun h => hI.2.2.2 (by rwa [updE_ne (by decide)] at h)⟩
          refine stepsF_cons ?_ ?_
          · intro listed vs W' hl hI hd hs hn hu hz ho9
            refine hold ?_
            obtain ⟨x0, x1, x2, x3, x4, x5, x6, x7, x8, x9, x10, x11, x12, x13, x14, rfl⟩ := lenlit15 hl; clear hl
            refine held ?_
            simp only [putAll, Act.put, List.setIfInBounds_toArray, List.set_cons_succ, List.set_cons_zero]
            go_wp2_with fail
            exact relyE_done _ rfl rfl (Ext.refl _) ⟨hI.1, fun h => hI.2.1 (updE_false2 h), fun h => hI.2.2.1 (updE_false2 h), fun h => hI.2.2.2 (by rwa [updE_ne (by decide)] at h)⟩
          refine stepsF_cons ?_ ?_
          · intro listed vs W' hl hI hd hs hn hu hz ho9
            refine hold ?_
            obtain ⟨x0, x1, x2, x3, x4, x5, x6, x7, x8, x9, x10, x11, x12, x13, x14, rfl⟩ := lenlit15 hl; clear hl
            simp only [factsL, atL, refV, List.getElem?_cons_succ, List.getElem?_cons_zero, List.getD_cons_succ, List.getD_cons_zero, RelL.one, RelL.any, RelL.blk, RelL.law, RLp, RAp] at hd
            obtain ⟨rfl, rfl, -⟩ := hd
            refine held ?_
            simp only [putAll, Act.put, List.setIfInBounds_toArray, List.set_cons_succ, List.set_cons_zero]
            go_wp2_with fail
            exact relyE_done _ rfl rfl (Ext.refl _) ⟨hI.1, fun h => hI.2.1 (updE_false2 h), fun h => hI.2.2.1 (updE_false2 h), fun h => hI.2.2.2 (by rwa [updE_ne (by decide)] at h)⟩
          refine stepsF_cons ?_ ?_
          · intro listed vs W' hl hI hd hs hn hu hz ho9
            refine hold ?_
            obtain ⟨x0, x1, x2, x3, x4, x5, x6, x7, x8, x9, x10, x11, x12, x13, x14, rfl⟩ := lenlit15 hl; clear hl
            simp only [factsL, atL, refV, List.getElem?_cons_succ, List.getElem?_cons_zero, List.getD_cons_succ, List.getD_cons_zero, RelL.one, RelL.any, RelL.blk, RelL.law, RLp, RAp] at hd
            obtain ⟨rfl, -⟩ := hd
            refine held ?_
            simp only [putAll, Act.put, List.setIfInBounds_toArray, List.set_cons_succ, List.set_cons_zero]
            have q := hI.1.1.cell dc
            go_wp2_with fail
            exact relyE_done _ rfl rfl (Ext.refl _) ⟨hI.1, fun h => hI.2.1 (updE_false2 h), fun h => hI.2.2.1 (updE_false2 h), fun h => hI.2.2.2 (by rwa [updE_ne (by decide)] at h)⟩
          refine stepsF_cons ?_ ?_
          · intro listed vs W' hl hI hd hs hn hu hz ho9
            refine hold ?_
            obtain ⟨x0, x1, x2, x3, x4, x5, x6, x7, x8, x9, x10, x11, x12, x13, x14, rfl⟩ := lenlit15 hl; clear hl
            refine held ?_
            simp only [putAll, Act.put, List.setIfInBounds_toArray, List.set_cons_succ, List.set_cons_zero]
            go_wp2_with fail
            exact relyE_done _ rfl rfl (Ext.refl _) ⟨hI.1, fun h => hI.2.1 (updE_false2 h), fun h => hI.2.2.1 (updE_false2 h), fun h => hI.2.2.2 (by rwa [updE_ne (by decide)] at h)⟩
          refine stepsF_cons ?_ ?_
          · intro listed vs W' hl hI hd hs hn hu hz ho9
            refine hold ?_
            obtain ⟨x0, x1, x2, x3, x4, x5, x6, x7, x8, x9, x10, x11, x12, x13, x14, rfl⟩ := lenlit15 hl; clear hl
            simp only [factsL, atL, refV, List.getElem?_cons_succ, List.getElem?_cons_zero, List.getD_cons_succ, List.getD_cons_zero, RelL.one, RelL.any, RelL.blk, RelL.law, RLp, RAp] at hd
            obtain ⟨rfl, -⟩ := hd
            refine held ?_
            simp only [putAll, Act.put, List.setIfInBounds_toArray, List.set_cons_succ, List.set_cons_zero]
            go_wp2_with fail
            exact relyE_done _ rfl rfl (Ext.refl _) ⟨hI.1, fun h => hI.2.1 (updE_false2 h), fun h => hI.2.2.1 (updE_false2 h), fun h => hI.2.2.2 (by rwa [updE_ne (by decide)] at h)⟩
          refine stepsF_cons ?_ ?_
          · intro listed vs W' hl hI hd hs hn hu hz ho9
            refine hold ?_
            obtain ⟨x0, x1, x2, x3, x4, x5, x6, x7, x8, x9, x10, x11, x12, x13, x14, rfl⟩ := lenlit15 hl; clear hl
            simp only [factsL, atL, refV, List.getElem?_cons_succ, List.getElem?_cons_zero, List.getD_cons_succ, List.getD_cons_zero, RelL.one, RelL.any, RelL.blk, RelL.law, RLp, RAp] at hd
            obtain ⟨rfl, -⟩ := hd
            refine held ?_
            simp only [putAll, Act.put, List.setIfInBounds_toArray, List.set_cons_succ, List.set_cons_zero]
            go_wp2_with fail
            exact relyE_done _ rfl rfl (Ext.refl _) ⟨hI.1, fun h => hI.2.1 (updE_false2 h), fun h => hI.2.2.1 (updE_false2 h), fun h => hI.2.2.2 (by rwa [updE_ne (by decide)] at h)⟩
          refine stepsF_cons ?_ ?_
          · intro listed vs W' hl hI hd hs hn hu hz ho9
            refine hold ?_
            obtain ⟨x0, x1, x2, x3, x4, x5, x6, x7, x8, x9, x10, x11, x12, x13, x14, rfl⟩ := lenlit15 hl; clear hl
            simp only [factsL, atL, refV, List.getElem?_cons_succ, List.getElem?_cons_zero, List.getD_cons_succ, List.getD_cons_zero, RelL.one, RelL.any, RelL.blk, RelL.law, RLp, RAp] at hd
            obtain ⟨rfl, -⟩ := hd
            refine held ?_
            simp only [putAll, Act.put, List.setIfInBounds_toArray, List.set_cons_succ, List.set_cons_zero]
            go_wp2_with fail
            exact relyE_done _ rfl rfl (Ext.refl _) ⟨hI.1, fun h => hI.2.1 (updE_false2 h), fun h => hI.2.2.1 (updE_false2 h), fun h => hI.2.2.2 (by rwa [updE_ne (by decide)] at h)⟩
          refine stepsF_cons ?_ ?_
          · intro listed vs W' hl hI hd hs hn hu hz ho9
            refine hold ?_
            obtain ⟨x0, x1, x2, x3, x4, x5, x6, x7, x8, x9, x10, x11, x12, x13, x14, rfl⟩ := lenlit15 hl; clear hl
            simp only [factsL, atL, refV, List.getElem?_cons_succ, List.getElem?_cons_zero, List.getD_cons_succ, List.getD_cons_zero, RelL.one, RelL.any, RelL.blk, RelL.law, RLp, RAp] at hd
            obtain ⟨rfl, rfl, -⟩ := hd
            refine held ?_
            simp only [putAll, Act.put, List.setIfInBounds_toArray, List.set_cons_succ, List.set_cons_zero]
            go_wp2_with fail
            exact relyE_done _ rfl rfl (Ext.refl _) ⟨hI.1, fun h => hI.2.1 (updE_false2 h), fun h => hI.2.2.1 (updE_false2 h), fun h => hI.2.2.2 (by rwa [updE_ne (by decide)] at h)⟩
          refine stepsF_cons ?_ ?_
          · intro listed vs W' hl hI hd hs hn hu hz ho9
            refine hold ?_
            obtain ⟨x0, x1, x2, x3, x4, x5, x6, x7, x8, x9, x10, x11, x12, x13, x14, rfl⟩ := lenlit15 hl; clear hl
            simp only [factsL, atL, refV, List.getElem?_cons_succ, List.getElem?_cons_zero, List.getD_cons_succ, List.getD_cons_zero, RelL.one, RelL.any, RelL.blk, RelL.law, RLp, RAp] at hd
            obtain ⟨rfl, -⟩ := hd
            refine held ?_
            simp only [putAll, Act.put, List.setIfInBounds_toArray, List.set_cons_succ, List.set_cons_zero]
            go_wp2_with fail
            have h12z : listed 12 = false := by cases h : listed 12 with | false => rfl | true => exact absurd (by decide) (hu 12 h)
            have h14z : listed 14 = false := by cases h : listed 14 with | false => rfl | true => exact absurd (by decide) (hu 14 h)
            exact relyE_done _ rfl ⟨_, rfl, (hI.2.1 h12z).sz, World.alloc_heap_new _ _⟩ ((Ext.refl _).alloc _) ⟨⟨hI.1.1.alloc _, hI.1.2.ext ((Ext.refl _).alloc _)⟩, fun h => (hI.2.1 (updE_false2 h)).alloc _, fun h => (hI.2.2.1 (updE_false2 h)).ext ((Ext.refl _).alloc _), fun h => (by rw [updE_ne (by decide), h14z] at h; cases h)⟩
          refine stepsF_cons ?_ ?_
          · intro listed vs W' hl hI hd hs hn hu hz ho9
            refine hold ?_
            obtain ⟨x0, x1, x2, x3, x4, x5, x6, x7, x8, x9, x10, x11, x12, x13, x14, rfl⟩ := lenlit15 hl; clear hl
            simp only [factsL, atL, refV, List.getElem?_cons_succ, List.getElem?_cons_zero, List.getD_cons_succ, List.getD_cons_zero, RelL.one, RelL.any, RelL.blk, RelL.law, RLp, RAp] at hd
            obtain ⟨rfl, ⟨b2, rfl, hb2, hB2⟩, -⟩ := hd
            refine held ?_
            simp only [putAll, Act.put, List.setIfInBounds_toArray, List.set_cons_succ, List.set_cons_zero]
            have hz2 := hI.2.1 hz
            have ho2 := ho.ext hz2
            have hlit := rw1_of_block (x := ⟨dk, 1⟩) hB2 HWK.out
            go_wp2_with (at_builtin; refine appL1 el_lp rfl _ _ rfl _ (pb + 1) _ _ _ _ rfl ho2.2 b2 _ _ rfl hlit (Nat.le_trans hzb1 hz2.sz) (by unfold maxLen; omega) (by omega) ?_; intro g3 c3 w3 hop hB hg; refine hold ?_)
            refine held ?_
            have h14z : listed 14 = false := by cases h : listed 14 with | false => rfl | true => exact absurd (by decide) (hu 14 h)
            exact wpList_nil (relyE_store _ rfl ⟨_, _, rfl, ⟨by rw [List.length_append, ho.1]; rfl, by rw [List.flatMap_append, List.flatMap_cons, List.flatMap_nil, List.append_nil]; exact hop⟩⟩ hB.size ⟨fun _ _ h => h, fun _ _ h => h, fun _ _ h => h, fun _ _ h => h, fun _ _ h => h, fun _ _ h => h, fun _ _ h => h, fun _ _ h => h, fun _ _ h => h, fun _ _ h => h, fun _ _ h => h, fun _ _ ⟨b, e1, e2, e3⟩ => ⟨b, e1, e2, (hg.block b (Array.getElem?_eq_some_iff.1 e3).1 (fun e => Nat.lt_irrefl _ (Nat.lt_of_lt_of_le (World.ownsRow.lt ho.2 b e.symm).2 e2))).trans e3⟩, fun _ hk _ => absurd rfl hk, fun _ _ h => h, fun _ _ h => h, trivial⟩ ⟨⟨Below.trans hI.1.1 (Below.mono hB hwz), (hB.block zb (by omega)).trans hI.1.2⟩, fun h => by simp [updE] at h, fun h => (hB.block pb (by omega)).trans (hI.2.2.1 (updE_false2 h)), fun h => (by rw [updE_ne (by decide), h14z] at h; cases h)⟩)
          refine stepsF_cons ?_ ?_
          · intro listed vs W' hl hI hd hs hn hu hz ho9
            refine hold ?_
            obtain ⟨x0, x1, x2, x3, x4, x5, x6, x7, x8, x9, x10, x11, x12, x13, x14, rfl⟩ := lenlit15 hl; clear hl
            refine held ?_
            simp only [putAll, Act.put, List.setIfInBounds_toArray, List.set_cons_succ, List.set_cons_zero]
            go_wp2_with fail
            exact relyE_done _ rfl rfl (Ext.refl _) ⟨hI.1, fun h => hI.2.1 (updE_false2 h), fun h => hI.2.2.1 (updE_false2 h), fun h => hI.2.2.2 (by rwa [updE_ne (by decide)] at h)⟩
          refine stepsF_cons ?_ ?_
          · intro listed vs W' hl hI hd hs hn hu hz ho9
            refine hold ?_
            obtain ⟨x0, x1, x2, x3, x4, x5, x6, x7, x8, x9, x10, x11, x12, x13, x14, rfl⟩ := lenlit15 hl; clear hl
            simp only [factsL, atL, refV, List.getElem?_cons_succ, List.getElem?_cons_zero, List.getD_cons_succ, List.getD_cons_zero, RelL.one, RelL.any, RelL.blk, RelL.law, RLp, RAp] at hd
            obtain ⟨⟨g3, c3, rfl, h3⟩, rfl, -⟩ := hd
            refine held ?_
            simp only [putAll, Act.put, List.setIfInBounds_toArray, List.set_cons_succ, List.set_cons_zero]
            have hP1 := hI.2.2.1 hz
            have p3 := hP1.c 3 _ rfl
            have f3 := hP1.free 3
            go_wp2_with fail
            exact relyE_store undef rfl trivial (by simp) ⟨fun _ _ h => h, fun _ _ h => h, fun _ _ h => h, fun _ _ h => h, fun _ _ h => h, fun _ _ h => h, fun _ _ h => h, fun _ _ h => h, fun _ _ h => h, fun _ _ h => h, fun _ _ h => h, fun _ _ h => RLp_set h hpz, fun _ _ h => RAp_set h (by omega), fun _ _ h => h, fun _ _ h => h, trivial⟩ ⟨⟨hI.1.1.setCell (p := ⟨pb, 3, none⟩) hpw _, hI.1.2.otherE hne 3 _⟩, fun h => (by have := hs 12 (by decide); rw [updE_ne (by decide), this] at h; cases h), fun h => by simp [updE] at h, fun _ => ⟨_, _, hP1.set3x _, h3.setOther (by omega) 3 _⟩⟩
          exact trivial
        · intro listed vs W' hl hall hI hd hn
          obtain ⟨x0, x1, x2, x3, x4, x5, x6, x7, x8, x9, x10, x11, x12, x13, x14, rfl⟩ := lenlit15 hl; clear hl
          simp only [List.length_cons, List.length_nil, List.range, List.range.loop, Nat.zero_add, Nat.reduceAdd, factsL, atL, refV, List.getElem?_cons_succ, List.getElem?_cons_zero, List.getD_cons_succ, List.getD_cons_zero, RelL.one, RelL.any, RelL.blk, RelL.law, RLp, RAp] at hd
          obtain ⟨rfl, rfl, rfl, rfl, rfl, rfl, rfl, rfl, rfl, rfl, rfl, -, -, rfl, -, -⟩ := hd
          simp only [putAll, Act.put, List.setIfInBounds_toArray, List.set_cons_succ, List.set_cons_zero]
          obtain ⟨a9, c9, hP9, ho9⟩ := hI.2.2.2 (hall 14 (by decide))
          have hx9 := hI.1.1
          have hZ9 := hI.1.2
          clear hI
          go_wp2_with fail
          exact ⟨⟨1, a9, c9, by omega, by go_num, hP9, hZ9, by rw [HT.out]; exact ho9, hx9⟩, by simp [intOf]; omega⟩
      · obtain rfl : k = 1 := by omega
        have dc := hc1 1 hlt

        have hwk := h1.wfAt hlt
        obtain ⟨Lk, hLk⟩ : ∃ L, L = (exL ds).take 1 := ⟨_, rfl⟩
        have HT : Hid ((exL ds).take 2 = Lk ++ [⟨nth ds 1, -1⟩]) := Lib.hid (by rw [hLk]; exact exL_1 (ds := ds) (by rw [HL.out]; exact hlt))
        rw [← hLk] at ho
        clear hLk hc1
        generalize nth ds 1 = dk at *
        have hWK : Cel.ok (⟨dk, (-1)⟩ : Lp) := ⟨hwk, rfl⟩
        have HWK := Lib.hid hWK
        go_upto_region 5 with fail
        refine region_relyF (fun listed W' => (Ext w W' ∧ Bk W' zb 27 #[.int .i64 0, .int .i64 0, .int .i64 0, .slice none 0 0, .int .i64 0, .int .i64 0]) ∧ (listed 12 = false → Ext wr W') ∧ (listed 14 = false → Bk W' pb 27 #[.int .i64 v, .int .i64 f, .int .i64 3000000000000000, .slice aa 1 cc, .int .i64 0, .int .i64 0]) ∧ (listed 14 = true → ∃ a' c', Bk W' pb 27 #[.int .i64 v, .int .i64 f, .int .i64 3000000000000000, .slice a' 2 c', .int .i64 0, .int .i64 0] ∧ OwR 52 (pb + 1) W' a' 2 c' (Lk ++ [⟨dk, (-1)⟩]))) [some 18, some 19, some 20, some 21, some 22, some 23, some 24, some 25, some 26, some 27, some 28, some 29, some 30, some 31, none] [[], [0], [], [], [2, 3], [2, 3, 4], [], [6], [6, 7], [6, 7, 8], [2, 3, 4, 5, 6, 7, 8, 9], [2, 3, 4, 5, 6, 7, 8, 9, 10], [0, 1, 2, 3, 4, 5, 6, 7, 8, 9, 10, 11], [0, 1, 2, 3, 4, 5, 6, 7, 8, 9, 10, 11, 12], [0, 1, 2, 3, 4, 5, 6, 7, 8, 9, 10, 11, 12, 13]] [[], [0], [], [], [2, 3], [4], [], [6], [7], [8], [5, 9], [10], [1, 11], [], [12, 13]] [none, none, none, none, none, none, none, none, none, none, none, none, none, none, none] [false, false, false, false, false, false, false, false, false, false, false, false, false, false, false] [.one (.pointer (some ⟨pb, 3, none⟩)), .one (.slice aa 1 cc), .one (.slice (some ⟨x1, o1, none⟩) n c), .one (.int .i64 1), .one (.pointer (some ⟨x1, o1 + 1, none⟩)), .one (.int .i64 dk), .one (.int .i64 1), .one (.int .i64 1), .one (.int .i64 2), .one (.int .i64 (-1)), .one (.agg #[.int .i64 dk, .int .i64 (-1)]), RLp wr.heap.size ⟨dk, (-1)⟩, RAp (pb + 1) 2 (Lk ++ [⟨dk, (-1)⟩]), .one (.pointer (some ⟨pb, 3, none⟩)), .any] (by kernel_rfl) (by kernel_rfl) rfl ⟨⟨hx.drew, hZr⟩, fun _ => (Ext.refl wr).drew, fun _ => hPr, fun h => absurd h (by decide)⟩ ?_ ?_
        · refine stepsF_cons ?_ ?_
          · intro listed vs W' hl hI hd hs hn hu hz ho9
            refine hold ?_
            obtain ⟨x0, x1, x2, x3, x4, x5, x6, x7, x8, x9, x10, x11, x12, x13, x14, rfl⟩ := lenlit15 hl; clear hl
            refine held ?_
            simp only [putAll, Act.put, List.setIfInBounds_toArray, List.set_cons_succ, List.set_cons_zero]
            go_wp2_with fail
            exact relyE_done _ rfl rfl (Ext.refl _) ⟨hI.1, fun h => hI.2.1 (updE_false2 h), fun h => hI.2.2.1 (updE_false2 h), fun h => hI.2.2.2 (by rwa [updE_ne (by decide)] at h)⟩
          refine stepsF_cons ?_ ?_
          · intro listed vs W' hl hI hd hs hn hu hz ho9
            refine hold ?_
            obtain ⟨x0, x1, x2, x3, x4, x5, x6, x7, x8, x9, x10, x11, x12, x13, x14, rfl⟩ := lenlit15 hl; clear hl
            simp only [factsL, atL, refV, List.getElem?_cons_succ, List.getElem?_cons_zero, List.getD_cons_succ, List.getD_cons_zero, RelL.one, RelL.any, RelL.blk, RelL.law, RLp, RAp] at hd
            obtain ⟨rfl, -⟩ := hd
            refine held ?_
            simp only [putAll, Act.put, List.setIfInBounds_toArray, List.set_cons_succ, List.set_cons_zero]
            have h14z : listed 14 = false := by cases h : listed 14 with | false => rfl | true => exact absurd (by decide) (hu 14 h)
            have hP1 := hI.2.2.1 h14z
            have p3 := hP1.c 3 _ rfl
            go_wp2_with fail
            exact relyE_done _ rfl rfl (Ext.refl _) ⟨hI.1, fun h => hI.2.1 (updE_false2 h), fun h => hI.2.2.1 (updE_false2 h), fun h => hI.2.2.2 (by rwa [updE_ne (by decide)] at h)⟩
          refine stepsF_cons ?_ ?_
          · intro listed vs W' hl hI hd hs hn hu hz ho9
            refine hold ?_
            obtain ⟨x0, x1, x2, x3, x4, x5, x6, x7, x8, x9, x10, x11, x12, x13, x14, rfl⟩ := lenlit15 hl; clear hl
            refine held ?_
            simp only [putAll, Act.put, List.setIfInBounds_toArray, List.set_cons_succ, List.set_cons_zero]
            go_wp2_with fail
            exact relyE_done _ rfl rfl (Ext.refl _) ⟨hI.1, fun h => hI.2.1 (updE_false2 h), fun h => hI.2.2.1 (updE_false2 h), fun h => hI.2.2.2 (by rwa [updE_ne (by decide)] at h)⟩
          refine stepsF_cons ?_ ?_
          · intro listed vs W' hl hI hd hs hn hu hz ho9
            refine hold ?_
            obtain ⟨x0, x1, x2, x3, x4, x5, x6, x7, x8, x9, x10, x11, x12, x13, x14, rfl⟩ := lenlit15 hl; clear hl
            refine held ?_
            simp only [putAll, Act.put, List.setIfInBounds_toArray, List.set_cons_succ, List.set_cons_zero]
            go_wp2_with fail
            exact relyE_done _ rfl rfl (Ext.refl _) ⟨hI.1, fun h => hI.2.1 (updE_false2 h), fun h => hI.2.2.1 (updE_false2 h), fun h => hI.2.2.2 (by rwa [updE_ne (by decide)] at h)⟩
          refine stepsF_cons ?_ ?_
          · intro listed vs W' hl hI hd hs hn hu hz ho9
            refine hold ?_
            obtain ⟨x0, x1, x2, x3, x4, x5, x6, x7, x8, x9, x10, x11, x12, x13, x14, rfl⟩ := lenlit15 hl; clear hl
            simp only [factsL, atL, refV, List.getElem?_cons_succ, List.getElem?_cons_zero, List.getD_cons_succ, List.getD_cons_zero, RelL.one, RelL.any, RelL.blk, RelL.law, RLp, RAp] at hd
            obtain ⟨rfl, rfl, -⟩ := hd
            refine held ?_
            simp only [putAll, Act.put, List.setIfInBounds_toArray, List.set_cons_succ, List.set_cons_zero]
            go_wp2_with fail
            exact relyE_done _ rfl rfl (Ext.refl _) ⟨hI.1, fun h => hI.2.1 (updE_false2 h), fun h => hI.2.2.1 (updE_false2 h), fun h => hI.2.2.2 (by rwa [updE_ne (by decide)] at h)⟩
          refine stepsF_cons ?_ ?_
          · intro listed vs W' hl hI hd hs hn hu hz ho9
            refine hold ?_
            obtain ⟨x0, x1, x2, x3, x4, x5, x6, x7, x8, x9, x10, x11, x12, x13, x14, rfl⟩ := lenlit15 hl; clear hl
            simp only [factsL, atL, refV, List.getElem?_cons_succ, List.getElem?_cons_zero, List.getD_cons_succ, List.getD_cons_zero, RelL.one, RelL.any, RelL.blk, RelL.law, RLp, RAp] at hd
            obtain ⟨rfl, -⟩ := hd
            refine held ?_
            simp only [putAll, Act.put, List.setIfInBounds_toArray, List.set_cons_succ, List.set_cons_zero]
            have q := hI.1.1.cell dc
            go_wp2_with fail
            exact relyE_done _ rfl rfl (Ext.refl _) ⟨hI.1, fun h => hI.2.1 (updE_false2 h), fun h => hI.2.2.1 (updE_false2 h), fun h => hI.2.2.2 (by rwa [updE_ne (by decide)] at h)⟩
          refine stepsF_cons ?_ ?_
          · intro listed vs W' hl hI hd hs hn hu hz ho9
            refine hold ?_
            obtain ⟨x0, x1, x2, x3, x4, x5, x6, x7, x8, x9, x10, x11, x12, x13, x14, rfl⟩ := lenlit15 hl; clear hl
            refine held ?_
            simp only [putAll, Act.put, List.setIfInBounds_toArray, List.set_cons_succ, List.set_cons_zero]
            go_wp2_with fail
            exact relyE_done _ rfl rfl (Ext.refl _) ⟨hI.1, fun h => hI.2.1 (updE_false2 h), fun h => hI.2.2.1 (updE_false2 h), fun h => hI.2.2.2 (by rwa [updE_ne (by decide)] at h)⟩
          refine stepsF_cons ?_ ?_
          · intro listed vs W' hl hI hd hs hn hu hz ho9
            refine hold ?_
            obtain ⟨x0, x1, x2, x3, x4, x5, x6, x7, x8, x9, x10, x11, x12, x13, x14, rfl⟩ := lenlit15 hl; clear hl
            simp only [factsL, atL, refV, List.getElem?_cons_succ, List.getElem?_cons_zero, List.getD_cons_succ, List.getD_cons_zero, RelL.one, RelL.any, RelL.blk, RelL.law, RLp, RAp] at hd
            obtain ⟨rfl, -⟩ := hd
            refine held ?_
            simp only [putAll, Act.put, List.setIfInBounds_toArray, List.set_cons_succ, List.set_cons_zero]
            go_wp2_with fail
            exact relyE_done _ rfl rfl (Ext.refl _) ⟨hI.1, fun h => hI.2.1 (updE_false2 h), fun h => hI.2.2.1 (updE_false2 h), fun h => hI.2.2.2 (by rwa [updE_ne (by decide)] at h)⟩
          refine stepsF_cons ?_ ?_
          · intro listed vs W' hl hI hd hs hn hu hz ho9
            refine hold ?_
            obtain ⟨x0, x1, x2, x3, x4, x5, x6, x7, x8, x9, x10, x11, x12, x13, x14, rfl⟩ := lenlit15 hl; clear hl
            simp only [factsL, atL, refV, List.getElem?_cons_succ, List.getElem?_cons_zero, List.getD_cons_succ, List.getD_cons_zero, RelL.one, RelL.any, RelL.blk, RelL.law, RLp, RAp] at hd
            obtain ⟨rfl, -⟩ := hd
            refine held ?_
            simp only [putAll, Act.put, List.setIfInBounds_toArray, List.set_cons_succ, List.set_cons_zero]
            go_wp2_with fail
            exact relyE_done _ rfl rfl (Ext.refl _) ⟨hI.1, fun h => hI.2.1 (updE_false2 h), fun h => hI.2.2.1 (updE_false2 h), fun h => hI.2.2.2 (by rwa [updE_ne (by decide)] at h)⟩
          refine stepsF_cons ?_ ?_
          · intro listed vs W' hl hI hd hs hn hu hz ho9
            refine hold ?_
            obtain ⟨x0, x1, x2, x3, x4, x5, x6, x7, x8, x9, x10, x11, x12, x13, x14, rfl⟩ := lenlit15 hl; clear hl
            simp only [factsL, atL, refV, List.getElem?_cons_succ, List.getElem?_cons_zero, List.getD_cons_succ, List.getD_cons_zero, RelL.one, RelL.any, RelL.blk, RelL.law, RLp, RAp] at hd
            obtain ⟨rfl, -⟩ := hd
            refine held ?_
            simp only [putAll, Act.put, List.setIfInBounds_toArray, List.set_cons_succ, List.set_cons_zero]
            go_wp2_with fail
            exact relyE_done _ rfl rfl (Ext.refl _) ⟨hI.1, fun h => hI.2.1 (updE_false2 h), fun h => hI.2.2.1 (updE_false2 h), fun h => hI.2.2.2 (by rwa [updE_ne (by decide)] at h)⟩
          refine stepsF_cons ?_ ?_
          · intro listed vs W' hl hI hd hs hn hu hz ho9
            refine hold ?_
            obtain ⟨x0, x1, x2, x3, x4, x5, x6, x7, x8, x9, x10, x11, x12, x13, x14, rfl⟩ := lenlit15 hl; clear hl
            simp only [factsL, atL, refV, List.getElem?_cons_succ, List.getElem?_cons_zero, List.getD_cons_succ, List.getD_cons_zero, RelL.one, RelL.any, RelL.blk, RelL.law, RLp, RAp] at hd
            obtain ⟨rfl, rfl, -⟩ := hd
            refine held ?_
            simp only [putAll, Act.put, List.setIfInBounds_toArray, List.set_cons_succ, List.set_cons_zero]
            go_wp2_with fail
            exact relyE_done _ rfl rfl (Ext.refl _) ⟨hI.1, fun h => hI.2.1 (updE_false2 h), fun h => hI.2.2.1 (updE_false2 h), fun h => hI.2.2.2 (by rwa [updE_ne (by decide)] at h)⟩
          refine stepsF_cons ?_ ?_
          · intro listed vs W' hl hI hd hs hn hu hz ho9
            refine hold ?_
            obtain ⟨x0, x1, x2, x3, x4, x5, x6, x7, x8, x9, x10, x11, x12, x13, x14, rfl⟩ := lenlit15 hl; clear hl
            simp only [factsL, atL, refV, List.getElem?_cons_succ, List.getElem?_cons_zero, List.getD_cons_succ, List.getD_cons_zero, RelL.one, RelL.any, RelL.blk, RelL.law, RLp, RAp] at hd
            obtain ⟨rfl, -⟩ := hd
            refine held ?_
            simp only [putAll, Act.put, List.setIfInBounds_toArray, List.set_cons_succ, List.set_cons_zero]
            go_wp2_with fail
            have h12z : listed 12 = false := by cases h : listed 12 with | false => rfl | true => exact absurd (by decide) (hu 12 h)
            have h14z : listed 14 = false := by cases h : listed 14 with | false => rfl | true => exact absurd (by decide) (hu 14 h)
            exact relyE_done _ rfl ⟨_, rfl, (hI.2.1 h12z).sz, World.alloc_heap_new _ _⟩ ((Ext.refl _).alloc _) ⟨⟨hI.1.1.alloc _, hI.1.2.ext ((Ext.refl _).alloc _)⟩, fun h => (hI.2.1 (updE_false2 h)).alloc _, fun h => (hI.2.2.1 (updE_false2 h)).ext ((Ext.refl _).alloc _), fun h => (by rw [updE_ne (by decide), h14z] at h; cases h)⟩
          refine stepsF_cons ?_ ?_
          · intro listed vs W' hl hI hd hs hn hu hz ho9
            refine hold ?_
            obtain ⟨x0, x1, x2, x3, x4, x5, x6, x7, x8, x9, x10, x11, x12, x13, x14, rfl⟩ := lenlit15 hl; clear hl
            simp only [factsL, atL, refV, List.getElem?_cons_succ, List.getElem?_cons_zero, List.getD_cons_succ, List.getD_cons_zero, RelL.one, RelL.any, RelL.blk, RelL.law, RLp, RAp] at hd
            obtain ⟨rfl, ⟨b2, rfl, hb2, hB2⟩, -⟩ := hd
            refine held ?_
            simp only [putAll, Act.put, List.setIfInBounds_toArray, List.set_cons_succ, List.set_cons_zero]
            have hz2 := hI.2.1 hz
            have ho2 := ho.ext hz2
            have hlit := rw1_of_block (x := ⟨dk, (-1)⟩) hB2 HWK.out
            go_wp2_with (at_builtin; refine appL1 el_lp rfl _ _ rfl _ (pb + 1) _ _ _ _ rfl ho2.2 b2 _ _ rfl hlit (Nat.le_trans hzb1 hz2.sz) (by unfold maxLen; omega) (by omega) ?_; intro g3 c3 w3 hop hB hg; refine hold ?_)
            refine held ?_
            have h14z : listed 14 = false := by cases h : listed 14 with | false => rfl | true => exact absurd (by decide) (hu 14 h)
            exact wpList_nil (relyE_store _ rfl ⟨_, _, rfl, ⟨by rw [List.length_append, ho.1]; rfl, by rw [List.flatMap_append, List.flatMap_cons, List.flatMap_nil, List.append_nil]; exact hop⟩⟩ hB.size ⟨fun _ _ h => h, fun _ _ h => h, fun _ _ h => h, fun _ _ h => h, fun _ _ h => h, fun _ _ h => h, fun _ _ h => h, fun _ _ h => h, fun _ _ h => h, fun _ _ h => h, fun _ _ h => h, fun _ _ ⟨b, e1, e2, e3⟩ => ⟨b, e1, e2, (hg.block b (Array.getElem?_eq_some_iff.1 e3).1 (fun e => Nat.lt_irrefl _ (Nat.lt_of_lt_of_le (World.ownsRow.lt ho.2 b e.symm).2 e2))).trans e3⟩, fun _ hk _ => absurd rfl hk, fun _ _ h => h, fun _ _ h => h, trivial⟩ ⟨⟨Below.trans hI.1.1 (Below.mono hB hwz), (hB.block zb (by omega)).trans hI.1.2⟩, fun h => by simp [updE] at h, fun h => (hB.block pb (by omega)).trans (hI.2.2.1 (updE_false2 h)), fun h => (by rw [updE_ne (by decide), h14z] at h; cases h)⟩)
          refine stepsF_cons ?_ ?_
          · intro listed vs W' hl hI hd hs hn hu hz ho9
            refine hold ?_
            obtain ⟨x0, x1, x2, x3, x4, x5, x6, x7, x8, x9, x10, x11, x12, x13, x14, rfl⟩ := lenlit15 hl; clear hl
            refine held ?_
            simp only [putAll, Act.put, List.setIfInBounds_toArray, List.set_cons_succ, List.set_cons_zero]
            go_wp2_with fail
            exact relyE_done _ rfl rfl (Ext.refl _) ⟨hI.1, fun h => hI.2.1 (updE_false2 h), fun h => hI.2.2.1 (updE_false2 h), fun h => hI.2.2.2 (by rwa [updE_ne (by decide)] at h)⟩
          refine stepsF_cons ?_ ?_
          · intro listed vs W' hl hI hd hs hn hu hz ho9
            refine hold ?_
            obtain ⟨x0, x1, x2, x3, x4, x5, x6, x7, x8, x9, x10, x11, x12, x13, x14, rfl⟩ := lenlit15 hl; clear hl
            simp only [factsL, atL, refV, List.getElem?_cons_succ, List.getElem?_cons_zero, List.getD_cons_succ, List.getD_cons_zero, RelL.one, RelL.any, RelL.blk, RelL.law, RLp, RAp] at hd
            obtain ⟨⟨g3, c3, rfl, h3⟩, rfl, -⟩ := hd
            refine held ?_
            simp only [putAll, Act.put, List.setIfInBounds_toArray, List.set_cons_succ, List.set_cons_zero]
            have hP1 := hI.2.2.1 hz
            have p3 := hP1.c 3 _ rfl
            have f3 := hP1.free 3
            go_wp2_with fail
            exact relyE_store undef rfl trivial (by simp) ⟨fun _ _ h => h, fun _ _ h => h, fun _ _ h => h, fun _ _ h => h, fun _ _ h => h, fun _ _ h => h, fun _ _ h => h, fun _ _ h => h, fun _ _ h => h, fun _ _ h => h, fun _ _ h => h, fun _ _ h => RLp_set h hpz, fun _ _ h => RAp_set h (by omega), fun _ _ h => h, fun _ _ h => h, trivial⟩ ⟨⟨hI.1.1.setCell (p := ⟨pb, 3, none⟩) hpw _, hI.1.2.otherE hne 3 _⟩, fun h => (by have := hs 12 (by decide); rw [updE_ne (by decide), this] at h; cases h), fun h => by simp [updE] at h, fun _ => ⟨_, _, hP1.set3x _, h3.setOther (by omega) 3 _⟩⟩
          exact trivial
        · intro listed vs W' hl hall hI hd hn
          obtain ⟨x0, x1, x2, x3, x4, x5, x6, x7, x8, x9, x10, x11, x12, x13, x14, rfl⟩ := lenlit15 hl; clear hl
          simp only [List.length_cons, List.length_nil, List.range, List.range.loop, Nat.zero_add, Nat.reduceAdd, factsL, atL, refV, List.getElem?_cons_succ, List.getElem?_cons_zero, List.getD_cons_succ, List.getD_cons_zero, RelL.one, RelL.any, RelL.blk, RelL.law, RLp, RAp] at hd
          obtain ⟨rfl, rfl, rfl, rfl, rfl, rfl, rfl, rfl, rfl, rfl, rfl, -, -, rfl, -, -⟩ := hd
          simp only [putAll, Act.put, List.setIfInBounds_toArray, List.set_cons_succ, List.set_cons_zero]
          obtain ⟨a9, c9, hP9, ho9⟩ := hI.2.2.2 (hall 14 (by decide))
          have hx9 := hI.1.1
          have hZ9 := hI.1.2
          clear hI
          go_wp2_with fail
          exact ⟨⟨2, a9, c9, by omega, by go_num, hP9, hZ9, by rw [HT.out]; exact ho9, hx9⟩, by simp [intOf]; omega⟩
    · obtain rfl : k = n := by omega
      have hfull : (exL ds).take k = exL ds := List.take_of_length_le (by rw [exL_len (by rw [HL.out]; exact hn), HL.out]; exact Nat.le_refl _)
      rw [hfull] at ho
      have hwf := exL_wf h1.wf
      clear hfull
      have q0 := hPr.c 0 _ rfl
      have z0 := hZr.c 0 _ rfl
      have y0 := hZr.free 0
      have q1 := hPr.c 1 _ rfl
      have z1 := hZr.c 1 _ rfl
      have y1 := hZr.free 1
      have q2 := hPr.c 2 _ rfl
      have z2 := hZr.c 2 _ rfl
      have y2 := hZr.free 2
      have q3 := hPr.c 3 _ rfl
      have z3 := hZr.c 3 _ rfl
      have y3 := hZr.free 3
      have q4 := hPr.c 4 _ rfl
      have z4 := hZr.c 4 _ rfl
      have y4 := hZr.free 4
      have q5 := hPr.c 5 _ rfl
      have z5 := hZr.c 5 _ rfl
      have y5 := hZr.free 5
      go_wp2_with fail
      exact bodyPost_ret (res_exm _ zb (.int .i64 v) (.int .i64 f) (.int .i64 3000000000000000) (.slice aa k cc) (.int .i64 0) (.int .i64 0) _ (by rfl) (hZr.set6 _ _ _ _ _ _)) rfl ⟨aa, cc, rfl, ((((((ho.setOther hzl 0 _).setOther hzl 1 _).setOther hzl 2 _).setOther hzl 3 _).setOther hzl 4 _).setOther hzl 5 _).rw (by omega) hwf, (((((hx.setCell (p := ⟨zb, 0, none⟩) hzw _).setCell (p := ⟨zb, 1, none⟩) hzw _).setCell (p := ⟨zb, 2, none⟩) hzw _).setCell (p := ⟨zb, 3, none⟩) hzw _).setCell (p := ⟨zb, 4, none⟩) hzw _).setCell (p := ⟨zb, 5, none⟩) hzw _⟩
end Go.Proofs.YtcohdojfbnijpaaDoor
