/-
  Open and Requests: the package, walked. Written by wip/gen_in.py.
-/
import Derived.Test.YtdmfdimhjemngaaGreatDoorIL
namespace Go.Proofs.YtdmfdimhjemngaaGreatDoor
open Go.RowKit Go.Sort Go.Shelf
set_option linter.unusedSimpArgs false
set_option linter.unusedVariables false
set_option maxRecDepth 100000

theorem res_iopn (W : World) (b : Nat) (v0 v1 v2 v3 v4 v5 v6 z : Value) (tmps : Array Value) (hb : tmps[8]?.getD undef = .pointer (some ⟨b, 0, none⟩)) (h9 : tmps[9]?.getD undef = z) (h : Bk W b 29 #[v0, v1, v2, v3, v4, v5, v6]) :
    (results Tryz.f7 tmps).run Tryz.prog W = .ok (.tuple #[.agg #[v0, v1, v2, v3, v4, v5, v6], z]) W := by
  have c0 := h.c 0 _ rfl
  have c1 := h.c 1 _ rfl
  have c2 := h.c 2 _ rfl
  have c3 := h.c 3 _ rfl
  have c4 := h.c 4 _ rfl
  have c5 := h.c 5 _ rfl
  have c6 := h.c 6 _ rfl
  simp [results, Tryz.results7, go_sem, hb, h9, c0, c1, c2, c3, c4, c5, c6]
theorem opnB_no {host : Int} {rs : List (List Rp)} {sent wait : Int} {asked : List Int} {E : Int} (h : opnE host rs sent wait asked = E) (h0 : E ≠ 0) : opnB host rs sent wait asked = bx0 := by unfold opnB; rw [h, if_neg h0]
theorem opnE_no {host : Int} {rs : List (List Rp)} {sent wait : Int} {asked : List Int} (h : opnX host rs sent wait asked = false) : opnE host rs sent wait asked = 1 := by unfold opnE; rw [h]; rfl

set_option maxHeartbeats 8000000 in
theorem iopn_any (host : Int) (hho : (Lit.int .i64 host).wf = true) (ca : Option Addr) (cn cc : Nat) (rs : List (List Rp)) (sent wait : Int) (hse : (Lit.int .i64 sent).wf = true) (hwa : (Lit.int .i64 wait).wf = true) (wa : Option Addr) (wn wc : Nat) (who : List Int) (w : World)
    (h1 : Rws w ca cn cc rs) (hs : Short2 cn rs) (h2 : Sl .i64 w wa wn wc who) (ht : TB w) :
    Calls Tryz.prog 7 #[.agg #[.int .i64 host, .slice ca cn cc], .int .i64 sent, .int .i64 wait, .slice wa wn wc] w fun e w' => BxQ w w' e (opnB host rs sent wait who) (opnE host rs sent wait who) := by
  have bd := h1.bd
  have bd2 := h2.bd
  have HT := Lib.hid ht
  have HL := Lib.hid h1.hlen
  have HS := Lib.hid hs
  have k1 := ibetween_any sent 0 3000000000000000
  have k2 := ibetween_any wait 0 1000000000
  have hE : Ext w ((w.alloc (.cells #[.int .i64 host, .slice ca cn cc] 24)).alloc (.cells #[.int .i64 0, .int .i64 0, .int .u64 0, .int .i64 0, .int .i64 0, .slice none 0 0, .slice none 0 0] 29)) := ((Ext.refl w).alloc _).alloc _
  have hC : Bk ((w.alloc (.cells #[.int .i64 host, .slice ca cn cc] 24)).alloc (.cells #[.int .i64 0, .int .i64 0, .int .u64 0, .int .i64 0, .int .i64 0, .slice none 0 0, .slice none 0 0] 29)) w.heap.size 24 #[.int .i64 host, .slice ca cn cc] := (Bk.new w 24 #[.int .i64 host, .slice ca cn cc]).ext ((Ext.refl _).alloc _)
  have hR := Bk.new (w.alloc (.cells #[.int .i64 host, .slice ca cn cc] 24)) 29 #[.int .i64 0, .int .i64 0, .int .u64 0, .int .i64 0, .int .i64 0, .slice none 0 0, .slice none 0 0]
  rw [World.size_alloc] at hR
  clear ht hs
  go_enter Tryz.func7, Tryz.ntmps7
  go_upto_region 1 with fail
  generalize (w.alloc (.cells #[.int .i64 host, .slice ca cn cc] 24)).alloc (.cells #[.int .i64 0, .int .i64 0, .int .u64 0, .int .i64 0, .int .i64 0, .slice none 0 0, .slice none 0 0] 29) = V at *
  obtain ⟨rb, hrb⟩ : ∃ rb, w.heap.size + 1 = rb := ⟨_, rfl⟩
  obtain ⟨cb, hcb⟩ : ∃ cb, w.heap.size = cb := ⟨_, rfl⟩
  rw [hrb] at hR ⊢
  have hrw : w.heap.size ≤ rb := by omega
  rw [hcb] at hC ⊢
  clear hrb hcb
  have c0 := hC.c 0 _ rfl
  have c1 := hC.c 1 _ rfl
  have z0 := hR.c 0 _ rfl
  have z1 := hR.c 1 _ rfl
  have z2 := hR.c 2 _ rfl
  have z3 := hR.c 3 _ rfl
  have z4 := hR.c 4 _ rfl
  have z5 := hR.c 5 _ rfl
  have z6 := hR.c 6 _ rfl
  have fz := hR.free
  go_wp2_with fail
  refine (valid_any host hho ca cn cc rs V (h1.ext hE) HS.out (TB.ext HT.out hE)).mono ?_
  rintro _ w1 ⟨rfl, hx⟩
  clear c0 c1 z0 z1 z2 z3 z4 z5 z6 fz
  replace hC := hC.ext hx
  replace hR := hR.ext hx
  replace hE := hE.trans hx
  clear hx
  have c0 := hC.c 0 _ rfl
  have c1 := hC.c 1 _ rfl
  have z0 := hR.c 0 _ rfl
  have z1 := hR.c 1 _ rfl
  have z2 := hR.c 2 _ rfl
  have z3 := hR.c 3 _ rfl
  have z4 := hR.c 4 _ rfl
  have z5 := hR.c 5 _ rfl
  have z6 := hR.c 6 _ rfl
  have fz := hR.free
  rcases hv : validF host rs with _ | _
  · have HE : Hid (opnE host rs sent wait who = 1) := Lib.hid (opnE_no (by unfold opnX; rw [hv]; rfl))
    clear hv
    go_wp2_with (go_at_call 21; (first | (with_reducible refine (k1 _).mono ?_) | (with_reducible refine (k2 _).mono ?_)); rintro e w' ⟨rfl, rfl⟩)
    exact bodyPost_ret (res_iopn _ rb (.int .i64 0) (.int .i64 0) (.int .u64 0) (.int .i64 0) (.int .i64 0) (.slice none 0 0) (.slice none 0 0) (.int .i64 1) _ (by rfl) (by rfl) (Bk.set7 hR _ _ _ _ _ _ _)) rfl ⟨none, 0, 0, none, 0, 0, by rw [opnB_no HE.out (by decide), HE.out]; rfl, by rw [opnB_no HE.out (by decide)]; exact bx0_f _, ⟨frsh0 _ _, frsh0 _ _⟩, hE.set7 hrw _ _ _ _ _ _ _⟩
  have HV := Lib.hid hv
  clear hv
  rcases q1 : inC sent 0 3000000000000000 with _ | _
  · have HE : Hid (opnE host rs sent wait who = 1) := Lib.hid (opnE_no (by unfold opnX; rw [q1]; simp))
    rw [q1] at k1
    clear q1
    go_wp2_with (go_at_call 21; (first | (with_reducible refine (k1 _).mono ?_) | (with_reducible refine (k2 _).mono ?_)); rintro e w' ⟨rfl, rfl⟩)
    exact bodyPost_ret (res_iopn _ rb (.int .i64 0) (.int .i64 0) (.int .u64 0) (.int .i64 0) (.int .i64 0) (.slice none 0 0) (.slice none 0 0) (.int .i64 1) _ (by rfl) (by rfl) (Bk.set7 hR _ _ _ _ _ _ _)) rfl ⟨none, 0, 0, none, 0, 0, by rw [opnB_no HE.out (by decide), HE.out]; rfl, by rw [opnB_no HE.out (by decide)]; exact bx0_f _, ⟨frsh0 _ _, frsh0 _ _⟩, hE.set7 hrw _ _ _ _ _ _ _⟩
  rw [q1] at k1
  have Q1 := Lib.hid q1
  clear q1
  rcases q2 : inC wait 0 1000000000 with _ | _
  · have HE : Hid (opnE host rs sent wait who = 1) := Lib.hid (opnE_no (by unfold opnX; rw [q2]; simp))
    rw [q2] at k2
    clear q2
    go_wp2_with (go_at_call 21; (first | (with_reducible refine (k1 _).mono ?_) | (with_reducible refine (k2 _).mono ?_)); rintro e w' ⟨rfl, rfl⟩)
    exact bodyPost_ret (res_iopn _ rb (.int .i64 0) (.int .i64 0) (.int .u64 0) (.int .i64 0) (.int .i64 0) (.slice none 0 0) (.slice none 0 0) (.int .i64 1) _ (by rfl) (by rfl) (Bk.set7 hR _ _ _ _ _ _ _)) rfl ⟨none, 0, 0, none, 0, 0, by rw [opnB_no HE.out (by decide), HE.out]; rfl, by rw [opnB_no HE.out (by decide)]; exact bx0_f _, ⟨frsh0 _ _, frsh0 _ _⟩, hE.set7 hrw _ _ _ _ _ _ _⟩
  rw [q2] at k2
  have Q2 := Lib.hid q2
  clear q2
  go_wp2_with (go_at_call 21; (first | (with_reducible refine (k1 _).mono ?_) | (with_reducible refine (k2 _).mono ?_)); rintro e w' ⟨rfl, rfl⟩)
  refine (iasked_any wa wn wc who w1 (h2.ext hE)).mono ?_
  rintro _ w2 ⟨rfl, hx⟩
  clear c0 c1 z0 z1 z2 z3 z4 z5 z6 fz
  replace hC := hC.ext hx
  replace hR := hR.ext hx
  replace hE := hE.trans hx
  clear hx
  have c0 := hC.c 0 _ rfl
  have c1 := hC.c 1 _ rfl
  have z0 := hR.c 0 _ rfl
  have z1 := hR.c 1 _ rfl
  have z2 := hR.c 2 _ rfl
  have z3 := hR.c 3 _ rfl
  have z4 := hR.c 4 _ rfl
  have z5 := hR.c 5 _ rfl
  have z6 := hR.c 6 _ rfl
  have fz := hR.free
  rcases qa : askB who with _ | _
  · have HE : Hid (opnE host rs sent wait who = 1) := Lib.hid (opnE_no (by unfold opnX; rw [qa]; simp))
    clear qa
    go_wp2_with (go_at_call 21; (first | (with_reducible refine (k1 _).mono ?_) | (with_reducible refine (k2 _).mono ?_)); rintro e w' ⟨rfl, rfl⟩)
    exact bodyPost_ret (res_iopn _ rb (.int .i64 0) (.int .i64 0) (.int .u64 0) (.int .i64 0) (.int .i64 0) (.slice none 0 0) (.slice none 0 0) (.int .i64 1) _ (by rfl) (by rfl) (Bk.set7 hR _ _ _ _ _ _ _)) rfl ⟨none, 0, 0, none, 0, 0, by rw [opnB_no HE.out (by decide), HE.out]; rfl, by rw [opnB_no HE.out (by decide)]; exact bx0_f _, ⟨frsh0 _ _, frsh0 _ _⟩, hE.set7 hrw _ _ _ _ _ _ _⟩
  have hwl := askB_len qa
  rw [h2.hlen] at hwl
  have HX : Hid (opnX host rs sent wait who = true) := Lib.hid (by unfold opnX; rw [HV.out, Q1.out, Q2.out, qa]; rfl)
  clear qa
  by_cases hn : cn = 200
  · have HE : Hid (opnE host rs sent wait who = 2) := Lib.hid (by unfold opnE; rw [if_pos HX.out, if_pos (by rw [HL.out]; exact hn)])
    have hq : ((cn : Int) == 200) = true := by simp [hn]
    clear hn
    go_wp2_with (go_at_call 21; (first | (with_reducible refine (k1 _).mono ?_) | (with_reducible refine (k2 _).mono ?_)); rintro e w' ⟨rfl, rfl⟩)
    exact bodyPost_ret (res_iopn _ rb (.int .i64 0) (.int .i64 0) (.int .u64 0) (.int .i64 0) (.int .i64 0) (.slice none 0 0) (.slice none 0 0) (.int .i64 2) _ (by rfl) (by rfl) (Bk.set7 hR _ _ _ _ _ _ _)) rfl ⟨none, 0, 0, none, 0, 0, by rw [opnB_no HE.out (by decide), HE.out]; rfl, by rw [opnB_no HE.out (by decide)]; exact bx0_f _, ⟨frsh0 _ _, frsh0 _ _⟩, hE.set7 hrw _ _ _ _ _ _ _⟩
  have hq : ((cn : Int) == 200) = false := by simp; omega
  have hlen := validF_len HV.out
  rw [HL.out] at hlen
  have HSH : Hid (Short rs) := Lib.hid (HS.out hlen)
  have HFO := Lib.hid (frm_open HX.out (by rw [HL.out]; exact hn))
  clear hn
  have hrng := headF_rng rs
  have hwr : IntKind.i64.wrap ((cn : Int) + 1) = (cn : Int) + 1 := IntWalk.i64_in _ (by omega)
  go_upto_region 8 with fail
  clear hq k1 k2
  have hlC := hC.lt
  have hg := @grow_cell
  have hhd := fun (W : World) (hW : Ext w2 W) => headf_any ca cn cc rs W (h1.ext (hE.trans hW)) HSH.out (TB.ext HT.out (hE.trans hW))
  have HHD := Lib.hid hhd
  clear hhd
  refine region_tail 13 (by kernel_rfl) (by kernel_rfl) ?_
  simp only [List.take_succ_cons, List.take_zero, List.drop_succ_cons, List.drop_zero]
  repeat (go_big_quiet_step ((go_at_call 24; exact Calls.regrown_of (HHD.out _ (ext_grow _ _ _)))))
  refine wpQuiet_nil ?_
  intro w3 hx
  clear hg hlC
  clear c0 c1 z0 z1 z2 z3 z4 z5 z6 fz
  replace hC := hC.ext hx
  replace hR := hR.ext hx
  replace hE := hE.trans hx
  clear hx
  have c0 := hC.c 0 _ rfl
  have c1 := hC.c 1 _ rfl
  have z0 := hR.c 0 _ rfl
  have z1 := hR.c 1 _ rfl
  have z2 := hR.c 2 _ rfl
  have z3 := hR.c 3 _ rfl
  have z4 := hR.c 4 _ rfl
  have z5 := hR.c 5 _ rfl
  have z6 := hR.c 6 _ rfl
  have fz := hR.free
  go_wp2_with fail
  refine (icopied_any ⟨host, (cn : Int) + 1, headF rs, sent, wait, who, []⟩ wa wn wc none 0 0 w3 ⟨⟨hho, wf_of_i64 (by simp; omega) (by simp; omega), hrng, hse, hwa⟩, h2.ext hE, Rw.nil _⟩ (by omega) (by omega)).mono ?_
  rintro _ w4 ⟨a5, c5, a6, c6, rfl, hs5, hf5, hr6, hf6, hh6, hx⟩
  have hrB := hR.lt
  have hwB := hE.sz
  clear c0 c1 z0 z1 z2 z3 z4 z5 z6 fz
  replace hC := hC.ext hx
  replace hR := hR.ext hx
  replace hE := hE.trans hx
  clear hx
  have c0 := hC.c 0 _ rfl
  have c1 := hC.c 1 _ rfl
  have z0 := hR.c 0 _ rfl
  have z1 := hR.c 1 _ rfl
  have z2 := hR.c 2 _ rfl
  have z3 := hR.c 3 _ rfl
  have z4 := hR.c 4 _ rfl
  have z5 := hR.c 5 _ rfl
  have z6 := hR.c 6 _ rfl
  have fz := hR.free
  go_wp2_with fail
  exact bodyPost_ret (res_iopn _ rb (.int .i64 host) (.int .i64 ((cn : Int) + 1)) (.int .u64 (headF rs)) (.int .i64 sent) (.int .i64 wait) (.slice a5 wn c5) (.slice a6 0 c6) (.int .i64 0) _ (by rfl) (by rfl) (Bk.set7 hR _ _ _ _ _ _ _)) rfl ⟨a5, wn, c5, a6, 0, c6, by rw [HFO.out.2.1, HFO.out.1, HL.out], by rw [HFO.out.2.1, HL.out]; exact ⟨⟨hho, wf_of_i64 (by simp; omega) (by simp; omega), hrng, hse, hwa⟩, hs5.set7 (hf5.ap hrB) _ _ _ _ _ _ _, hr6.set7 (hf6.ap hrB) _ _ _ _ _ _ _⟩, ⟨hf5.mono hwB, hf6.mono hwB⟩, hE.set7 hrw _ _ _ _ _ _ _⟩
theorem lenlit13 {vs : List Value} (h : vs.length = 13) : ∃ x0 x1 x2 x3 x4 x5 x6 x7 x8 x9 x10 x11 x12 : Value, vs = [x0, x1, x2, x3, x4, x5, x6, x7, x8, x9, x10, x11, x12] := by
  obtain ⟨x0, v0, rfl, h0⟩ := len_cons h
  obtain ⟨x1, v1, rfl, h1⟩ := len_cons h0
  obtain ⟨x2, v2, rfl, h2⟩ := len_cons h1
  obtain ⟨x3, v3, rfl, h3⟩ := len_cons h2
  obtain ⟨x4, v4, rfl, h4⟩ := len_cons h3
  obtain ⟨x5, v5, rfl, h5⟩ := len_cons h4
  obtain ⟨x6, v6, rfl, h6⟩ := len_cons h5
  obtain ⟨x7, v7, rfl, h7⟩ := len_cons h6
  obtain ⟨x8, v8, rfl, h8⟩ := len_cons h7
  obtain ⟨x9, v9, rfl, h9⟩ := len_cons h8
  obtain ⟨x10, v10, rfl, h10⟩ := len_cons h9
  obtain ⟨x11, v11, rfl, h11⟩ := len_cons h10
  obtain ⟨x12, v12, rfl, h12⟩ := len_cons h11
  obtain rfl := len_nil h12
  exact ⟨x0, x1, x2, x3, x4, x5, x6, x7, x8, x9, x10, x11, x12, rfl⟩


section
variable {α : Type} [Cel α]
/-- 'append(s, x)', x a record in a block of its own that lies here already; it tells which blocks stay. -/
theorem appRg {P : Program} {T E : TypeId} {z : Value} {by_ : Nat} (hE : ElS P T E z (Cel.sz α) by_) {ops : Array Oper} {rest : List Oper} {o : Oper} {a : Act} {Q : Exit → Act → World → Prop} (hgd : o.guard = none) (s x : Operand)
    (ho : o.op = .call { callee := .builtin .append, args := #[s, x], argTypes := #[T, T] })
    (w : World) (base : Nat) (sa : Option Addr) (n c : Nat) (xs : List α) (y : α) (cs : Array Value) (hcs : cs.toList = Cel.enc y) (hs : a.eval s = .slice sa n c) (hown : OwR E base w sa n c xs)
    (b : Nat) (E' : TypeId) (hb : w.heap[b]? = some (.cells cs E' (0, 0))) (hx : a.eval x = .slice (some ⟨b, 0, none⟩) 1 1) (hbase : base ≤ w.heap.size) (h63 : n + 1 ≤ maxLen) (hbytes : (n + 1) * by_ ≤ 140737488355328)
    (h : ∀ g cap w', OwR E base w' (some ⟨g, 0, none⟩) (n + 1) cap (xs ++ [y]) → Below base w w' → w.grownBy w' (Value.slice sa n c).ownBlock → wpList P ops Q rest (a.put o.dst (.slice (some ⟨g, 0, none⟩) (n + 1) cap)) w') :
    wpList P ops Q (o :: rest) a w := by
  have hr : w.rangeAt b 0 (Cel.enc y) := by
    intro j v hv
    rw [cell_of_row w b (0 + j) cs E' (0, 0) hb, ← Array.getElem?_toList, hcs, Nat.zero_add]
    exact hv
  refine appC hE hgd s x ho w base sa n c _ hs hown.2 b 0 1 1 (Cel.enc y) hx (by rw [Cel.len, Nat.one_mul]) hr (fun u hu => Cel.one y u hu) (by omega) hbase h63 hbytes ?_
  intro g cap w' h2 h3 h4 _
  exact h g cap w' ⟨by simp [hown.1], by rw [List.flatMap_append]; simpa using h2⟩ h3 h4
end
def RNr (B n : Nat) (L : List Rq) : RelL Ext := ⟨none, fun _ v W => ∃ g c, v = .slice (some ⟨g, 0, none⟩) n c ∧ OwR 51 B W (some ⟨g, 0, none⟩) n c L, fun u v W W' ⟨g, c, h1, h2⟩ hE => ⟨g, c, h1, h2.ext hE⟩⟩
def RLr (B : Nat) (cs : Array Value) : RelL Ext := ⟨none, fun _ v W => ∃ b, v = .slice (some ⟨b, 0, none⟩) 1 1 ∧ B ≤ b ∧ W.heap[b]? = some (.cells cs 51 (0, 0)), fun _ v W W' ⟨b, h1, h2, h3⟩ hE => ⟨b, h1, h2, (hE.block b (Array.getElem?_eq_some_iff.1 h3).1).trans h3⟩⟩
def RSmr (j : Nat) : RelL Ext := ⟨some j, fun u v _ => v = u, fun _ _ _ _ h _ => h⟩
theorem updE_falseR {listed : Nat → Bool} {i k : Nat} (h : updE listed i k = false) : listed k = false := by
  unfold updE at h
  simp only [Bool.or_eq_false_iff] at h
  exact h.1
theorem rqs_take (b : Bx) {k : Nat} (h : k < b.asked.length) : (b.asked.take (k + 1)).map (rq1 b) = (b.asked.take k).map (rq1 b) ++ [rq1 b (nth b.asked k)] := by
  rw [List.take_succ_eq_append_getElem h, List.map_append]
  rw [show nth b.asked k = b.asked[k] by simp [nth, List.getD_eq_getElem?_getD, h]]
  rfl
theorem rq1_ok {b : Bx} (h : b.Ok) {x : Int} (hx : (Lit.int .i64 x).wf = true) : (rq1 b x).Ok := by
  have h4 : (Lit.int .u64 (nonF b.head b.host b.round x)).wf = true := u64_wf (nonF_rng b.head b.host b.round x)
  unfold rq1
  generalize nonF b.head b.host b.round x = N at *
  exact ⟨h.host, hx, h.round, h4⟩

set_option maxHeartbeats 4000000 in
theorem irqs_any (b : Bx) (sa : Option Addr) (sn sc : Nat) (ga : Option Addr) (gn gc : Nat) (w : World) (hb : BxF w b sa sn sc ga gn gc) (ht : TB w) :
    Calls Tryz.prog 10 #[.agg #[.int .i64 b.host, .int .i64 b.round, .int .u64 b.head, .int .i64 b.sent, .int .i64 b.wait, .slice sa sn sc, .slice ga gn gc]] w fun e w' => ∃ a n c, e = .returned (.tuple #[.slice a n c, .int .i64 (okE (frmX b))]) ∧ Rw w' a n c (rqsX b) ∧ Ext w w' := by
  have HT := Lib.hid ht
  have HO := Lib.hid hb.ok
  have h1 := hb.sl
  have bd := h1.bd
  have HL := Lib.hid h1.hlen
  have hP := Bk.new w 29 #[.int .i64 b.host, .int .i64 b.round, .int .u64 b.head, .int .i64 b.sent, .int .i64 b.wait, .slice sa sn sc, .slice ga gn gc]
  have hE : Ext w (w.alloc (.cells #[.int .i64 b.host, .int .i64 b.round, .int .u64 b.head, .int .i64 b.sent, .int .i64 b.wait, .slice sa sn sc, .slice ga gn gc] 29)) := (Ext.refl w).alloc _
  clear ht
  go_enter Tryz.func10, Tryz.ntmps10
  go_upto_region 1 with fail
  generalize w.alloc (.cells #[.int .i64 b.host, .int .i64 b.round, .int .u64 b.head, .int .i64 b.sent, .int .i64 b.wait, .slice sa sn sc, .slice ga gn gc] 29) = V at *
  generalize w.heap.size = pb at hP ⊢
  have p0 := hP.c 0 _ rfl
  have p1 := hP.c 1 _ rfl
  have p2 := hP.c 2 _ rfl
  have p3 := hP.c 3 _ rfl
  have p4 := hP.c 4 _ rfl
  have p5 := hP.c 5 _ rfl
  have p6 := hP.c 6 _ rfl
  go_wp2_with fail
  refine (iformed_any b sa sn sc ga gn gc V (hb.ext hE) (TB.ext HT.out hE)).mono ?_
  rintro _ W ⟨rfl, hx⟩
  clear p0 p1 p2 p3 p4 p5 p6
  replace hP := hP.ext hx
  replace hE := hE.trans hx
  clear hx
  have p0 := hP.c 0 _ rfl
  have p1 := hP.c 1 _ rfl
  have p2 := hP.c 2 _ rfl
  have p3 := hP.c 3 _ rfl
  have p4 := hP.c 4 _ rfl
  have p5 := hP.c 5 _ rfl
  have p6 := hP.c 6 _ rfl
  rcases hf : frmX b with _ | _
  · have HR : Hid (rqsX b = []) := Lib.hid (by unfold rqsX; rw [hf]; rfl)
    have HZ : Hid (okE (frmX b) = 1) := Lib.hid (by rw [hf]; rfl)
    clear hf
    go_wp2_with fail
    go_ret2
    exact ⟨none, 0, 0, by rw [HZ.out]; rfl, by rw [HR.out]; exact Rw.nil _, hE⟩
  have HR : Hid (rqsX b = b.asked.map (rq1 b)) := Lib.hid (by unfold rqsX; rw [hf]; rfl)
  have HZ : Hid (okE (frmX b) = 0) := Lib.hid (by rw [hf]; rfl)
  have hsn := askB_len (frmX_iff.1 hf).asked
  rw [HL.out] at hsn
  have hEW := hE
  clear hf
  go_wp2_with fail
  clear p0 p1 p2 p3 p4 p5 p6
  go_loopw [4, 13] (fun s i wr => ∃ (k cc : Nat) (aa : Option Addr), k ≤ sn ∧ i = .int .i64 (k : Int) ∧ s = .slice aa k cc ∧ OwR 51 W.heap.size wr aa k cc ((b.asked.take k).map (rq1 b)) ∧ Ext W wr) (fun _ i _ => sn - (intOf i).toNat)
  case atStart => exact ⟨0, 0, none, by omega, rfl, rfl, OwR.nil _ _ _, Ext.refl W⟩
  case round =>
    obtain ⟨m, cc, aa, hk, rfl, rfl, ho, hEr⟩ := hrel
    have hPr := hP.ext hEr
    by_cases hlt : m < sn
    · obtain ⟨xb, o1, rfl, hc1⟩ := h1.at (by omega)
      have d0 := (hE.trans hEr).cell (hc1 m hlt)
      have hxw := h1.wfAt hlt
      have HTK : Hid ((b.asked.take (m + 1)).map (rq1 b) = (b.asked.take m).map (rq1 b) ++ [⟨b.host, nth b.asked m, b.round, nonF b.head b.host b.round (nth b.asked m)⟩]) := Lib.hid (rqs_take b (by rw [HL.out]; exact hlt))
      clear hc1
      generalize nth b.asked m = x at *
      obtain ⟨NF, hNF⟩ : ∃ z, nonF b.head b.host b.round x = z := ⟨_, rfl⟩
      rw [hNF] at HTK
      have HNF := Lib.hid hNF
      clear hNF
      generalize (b.asked.take m).map (rq1 b) = L at *
      go_upto_region 7 with fail
      have hP0 := hP
      have e0 := hP0.c 0 _ rfl
      have e1 := hP0.c 1 _ rfl
      have e2 := hP0.c 2 _ rfl
      have e3 := hP0.c 3 _ rfl
      have e4 := hP0.c 4 _ rfl
      have e5 := hP0.c 5 _ rfl
      have e6 := hP0.c 6 _ rfl
      refine region_relyF (fun listed W' => Ext W W' ∧ (listed 11 = false → Ext wr W')) [some 17, some 18, some 19, some 20, some 21, some 22, some 23, some 24, some 25, some 26, some 27, some 28, some 4] [[], [], [1], [], [], [4], [], [], [6, 7], [1, 2, 3, 4, 5, 6, 7, 8], [1, 2, 3, 4, 5, 6, 7, 8, 9], [0, 1, 2, 3, 4, 5, 6, 7, 8, 9, 10], [0, 1, 2, 3, 4, 5, 6, 7, 8, 9, 10, 11]] [[], [], [1], [], [], [4], [], [], [6, 7], [2, 3, 5, 8], [9], [0, 10], [11]] [none, none, none, none, none, none, none, none, none, none, none, none, some 11] [false, false, false, false, false, false, false, false, false, false, false, false, false] [.one (.slice aa m cc), .one (.pointer (some ⟨pb, 0, none⟩)), .one (.int .i64 b.host), .one (.int .i64 x), .one (.pointer (some ⟨pb, 1, none⟩)), .one (.int .i64 b.round), .one (.agg #[.int .i64 b.host, .int .i64 b.round, .int .u64 b.head, .int .i64 b.sent, .int .i64 b.wait, .slice (some ⟨xb, o1, none⟩) sn sc, .slice ga gn gc]), .one (.int .i64 x), .one (.int .u64 NF), .one (.agg #[.int .i64 b.host, .int .i64 x, .int .i64 b.round, .int .u64 NF]), RLr wr.heap.size #[.int .i64 b.host, .int .i64 x, .int .i64 b.round, .int .u64 NF], RNr W.heap.size (m + 1) (L ++ [⟨b.host, x, b.round, NF⟩]), RSmr 11] (by kernel_rfl) (by kernel_rfl) rfl ⟨hEr.drew, fun _ => (Ext.refl wr).drew⟩ ?_ ?_
      · refine stepsF_cons ?_ ?_
        · intro listed vs W' hl hI hd hs hn hu hz ho9
          refine hold ?_
          obtain ⟨x0, x1, x2, x3, x4, x5, x6, x7, x8, x9, x10, x11, x12, rfl⟩ := lenlit13 hl; clear hl
          refine held ?_
          simp only [putAll, Act.put, List.setIfInBounds_toArray, List.set_cons_succ, List.set_cons_zero]
          have h12z : listed 12 = false := by cases h : listed 12 with | false => rfl | true => exact absurd (by decide) (hu 12 h)
          obtain rfl : x12 = .slice aa m cc := ho9 12 (some 4) x12 h12z rfl rfl
          go_wp2_with fail
          exact relyE_done _ rfl rfl (Ext.refl _) ⟨hI.1, fun h => hI.2 (updE_falseR h)⟩
        refine stepsF_cons ?_ ?_
        · intro listed vs W' hl hI hd hs hn hu hz ho9
          refine hold ?_
          obtain ⟨x0, x1, x2, x3, x4, x5, x6, x7, x8, x9, x10, x11, x12, rfl⟩ := lenlit13 hl; clear hl
          refine held ?_
          simp only [putAll, Act.put, List.setIfInBounds_toArray, List.set_cons_succ, List.set_cons_zero]
          go_wp2_with fail
          exact relyE_done _ rfl rfl (Ext.refl _) ⟨hI.1, fun h => hI.2 (updE_falseR h)⟩
        refine stepsF_cons ?_ ?_
        · intro listed vs W' hl hI hd hs hn hu hz ho9
          refine hold ?_
          obtain ⟨x0, x1, x2, x3, x4, x5, x6, x7, x8, x9, x10, x11, x12, rfl⟩ := lenlit13 hl; clear hl
          simp only [factsL, atL, refV, List.getElem?_cons_succ, List.getElem?_cons_zero, List.getD_cons_succ, List.getD_cons_zero, RelL.one, RelL.any, RelL.blk, RelL.law, RNr, RLr, RSmr] at hd
          obtain ⟨rfl, -⟩ := hd
          refine held ?_
          simp only [putAll, Act.put, List.setIfInBounds_toArray, List.set_cons_succ, List.set_cons_zero]
          have q := hI.1.cell e0
          go_wp2_with fail
          exact relyE_done _ rfl rfl (Ext.refl _) ⟨hI.1, fun h => hI.2 (updE_falseR h)⟩
        refine stepsF_cons ?_ ?_
        · intro listed vs W' hl hI hd hs hn hu hz ho9
          refine hold ?_
          obtain ⟨x0, x1, x2, x3, x4, x5, x6, x7, x8, x9, x10, x11, x12, rfl⟩ := lenlit13 hl; clear hl
          refine held ?_
          simp only [putAll, Act.put, List.setIfInBounds_toArray, List.set_cons_succ, List.set_cons_zero]
          go_wp2_with fail
          exact relyE_done _ rfl rfl (Ext.refl _) ⟨hI.1, fun h => hI.2 (updE_falseR h)⟩
        refine stepsF_cons ?_ ?_
        · intro listed vs W' hl hI hd hs hn hu hz ho9
          refine hold ?_
          obtain ⟨x0, x1, x2, x3, x4, x5, x6, x7, x8, x9, x10, x11, x12, rfl⟩ := lenlit13 hl; clear hl
          refine held ?_
          simp only [putAll, Act.put, List.setIfInBounds_toArray, List.set_cons_succ, List.set_cons_zero]
          go_wp2_with fail
          exact relyE_done _ rfl rfl (Ext.refl _) ⟨hI.1, fun h => hI.2 (updE_falseR h)⟩
        refine stepsF_cons ?_ ?_
        · intro listed vs W' hl hI hd hs hn hu hz ho9
          refine hold ?_
          obtain ⟨x0, x1, x2, x3, x4, x5, x6, x7, x8, x9, x10, x11, x12, rfl⟩ := lenlit13 hl; clear hl
          simp only [factsL, atL, refV, List.getElem?_cons_succ, List.getElem?_cons_zero, List.getD_cons_succ, List.getD_cons_zero, RelL.one, RelL.any, RelL.blk, RelL.law, RNr, RLr, RSmr] at hd
          obtain ⟨rfl, -⟩ := hd
          refine held ?_
          simp only [putAll, Act.put, List.setIfInBounds_toArray, List.set_cons_succ, List.set_cons_zero]
          have q := hI.1.cell e1
          go_wp2_with fail
          exact relyE_done _ rfl rfl (Ext.refl _) ⟨hI.1, fun h => hI.2 (updE_falseR h)⟩
        refine stepsF_cons ?_ ?_
        · intro listed vs W' hl hI hd hs hn hu hz ho9
          refine hold ?_
          obtain ⟨x0, x1, x2, x3, x4, x5, x6, x7, x8, x9, x10, x11, x12, rfl⟩ := lenlit13 hl; clear hl
          refine held ?_
          simp only [putAll, Act.put, List.setIfInBounds_toArray, List.set_cons_succ, List.set_cons_zero]
          have q0 := hI.1.cell e0
          have q1 := hI.1.cell e1
          have q2 := hI.1.cell e2
          have q3 := hI.1.cell e3
          have q4 := hI.1.cell e4
          have q5 := hI.1.cell e5
          have q6 := hI.1.cell e6
          go_wp2_with fail
          exact relyE_done _ rfl rfl (Ext.refl _) ⟨hI.1, fun h => hI.2 (updE_falseR h)⟩
        refine stepsF_cons ?_ ?_
        · intro listed vs W' hl hI hd hs hn hu hz ho9
          refine hold ?_
          obtain ⟨x0, x1, x2, x3, x4, x5, x6, x7, x8, x9, x10, x11, x12, rfl⟩ := lenlit13 hl; clear hl
          refine held ?_
          simp only [putAll, Act.put, List.setIfInBounds_toArray, List.set_cons_succ, List.set_cons_zero]
          go_wp2_with fail
          exact relyE_done _ rfl rfl (Ext.refl _) ⟨hI.1, fun h => hI.2 (updE_falseR h)⟩
        refine stepsF_cons ?_ ?_
        · intro listed vs W' hl hI hd hs hn hu hz ho9
          refine hold ?_
          obtain ⟨x0, x1, x2, x3, x4, x5, x6, x7, x8, x9, x10, x11, x12, rfl⟩ := lenlit13 hl; clear hl
          simp only [factsL, atL, refV, List.getElem?_cons_succ, List.getElem?_cons_zero, List.getD_cons_succ, List.getD_cons_zero, RelL.one, RelL.any, RelL.blk, RelL.law, RNr, RLr, RSmr] at hd
          obtain ⟨rfl, rfl, -⟩ := hd
          refine held ?_
          simp only [putAll, Act.put, List.setIfInBounds_toArray, List.set_cons_succ, List.set_cons_zero]
          go_wp2_with fail
          refine (inonce_any b (some ⟨xb, o1, none⟩) sn sc ga gn gc x hxw W' HO.out (TB.ext HT.out (hEW.trans hI.1))).mono ?_
          rintro e w4 ⟨rfl, hx4⟩
          rw [HNF.out]
          go_wp2_with fail
          exact relyE_done _ rfl rfl hx4 ⟨hI.1.trans hx4, fun h => (hI.2 (updE_falseR h)).trans hx4⟩
        refine stepsF_cons ?_ ?_
        · intro listed vs W' hl hI hd hs hn hu hz ho9
          refine hold ?_
          obtain ⟨x0, x1, x2, x3, x4, x5, x6, x7, x8, x9, x10, x11, x12, rfl⟩ := lenlit13 hl; clear hl
          simp only [factsL, atL, refV, List.getElem?_cons_succ, List.getElem?_cons_zero, List.getD_cons_succ, List.getD_cons_zero, RelL.one, RelL.any, RelL.blk, RelL.law, RNr, RLr, RSmr] at hd
          obtain ⟨rfl, rfl, rfl, rfl, -⟩ := hd
          refine held ?_
          simp only [putAll, Act.put, List.setIfInBounds_toArray, List.set_cons_succ, List.set_cons_zero]
          go_wp2_with fail
          exact relyE_done _ rfl rfl (Ext.refl _) ⟨hI.1, fun h => hI.2 (updE_falseR h)⟩
        refine stepsF_cons ?_ ?_
        · intro listed vs W' hl hI hd hs hn hu hz ho9
          refine hold ?_
          obtain ⟨x0, x1, x2, x3, x4, x5, x6, x7, x8, x9, x10, x11, x12, rfl⟩ := lenlit13 hl; clear hl
          simp only [factsL, atL, refV, List.getElem?_cons_succ, List.getElem?_cons_zero, List.getD_cons_succ, List.getD_cons_zero, RelL.one, RelL.any, RelL.blk, RelL.law, RNr, RLr, RSmr] at hd
          obtain ⟨rfl, -⟩ := hd
          refine held ?_
          simp only [putAll, Act.put, List.setIfInBounds_toArray, List.set_cons_succ, List.set_cons_zero]
          go_wp2_with fail
          have h11z : listed 11 = false := by cases h : listed 11 with | false => rfl | true => exact absurd (by decide) (hu 11 h)
          exact relyE_done _ rfl ⟨_, rfl, (hI.2 h11z).sz, World.alloc_heap_new _ _⟩ ((Ext.refl _).alloc _) ⟨hI.1.alloc _, fun h => (hI.2 (updE_falseR h)).alloc _⟩
        refine stepsF_cons ?_ ?_
        · intro listed vs W' hl hI hd hs hn hu hz ho9
          refine hold ?_
          obtain ⟨x0, x1, x2, x3, x4, x5, x6, x7, x8, x9, x10, x11, x12, rfl⟩ := lenlit13 hl; clear hl
          simp only [factsL, atL, refV, List.getElem?_cons_succ, List.getElem?_cons_zero, List.getD_cons_succ, List.getD_cons_zero, RelL.one, RelL.any, RelL.blk, RelL.law, RNr, RLr, RSmr] at hd
          obtain ⟨rfl, ⟨b2, rfl, hb2, hB2⟩, -⟩ := hd
          refine held ?_
          simp only [putAll, Act.put, List.setIfInBounds_toArray, List.set_cons_succ, List.set_cons_zero]
          have hz2 := hI.2 hz
          have hbz : W.heap.size ≤ W'.heap.size := hI.1.sz
          have ho2 := ho.ext hz2
          go_wp2_with (at_builtin; refine appRg (α := Rq) el_rq rfl _ _ rfl _ W.heap.size _ _ _ _ ⟨b.host, x, b.round, NF⟩ _ rfl rfl ho2 _ _ hB2 rfl hbz (by unfold maxLen; omega) (by omega) ?_; intro g3 c3 w3 hop hB hg; refine hold ?_)
          refine held ?_
          exact wpList_nil (relyE_store _ rfl ⟨_, _, rfl, hop⟩ hB.size ⟨fun _ _ h => h, fun _ _ h => h, fun _ _ h => h, fun _ _ h => h, fun _ _ h => h, fun _ _ h => h, fun _ _ h => h, fun _ _ h => h, fun _ _ h => h, fun _ _ h => h, fun _ _ ⟨b, e1, e2, e3⟩ => ⟨b, e1, e2, (hg.block b (Array.getElem?_eq_some_iff.1 e3).1 (fun e => Nat.lt_irrefl _ (Nat.lt_of_lt_of_le (World.ownsRow.lt ho.2 b e.symm).2 e2))).trans e3⟩, fun _ hk _ => absurd rfl hk, fun _ _ h => h, trivial⟩ ⟨Below.trans hI.1 hB, fun h => by simp [updE] at h⟩)
        refine stepsF_cons ?_ ?_
        · intro listed vs W' hl hI hd hs hn hu hz ho9
          refine hold ?_
          obtain ⟨x0, x1, x2, x3, x4, x5, x6, x7, x8, x9, x10, x11, x12, rfl⟩ := lenlit13 hl; clear hl
          simp only [factsL, atL, refV, List.getElem?_cons_succ, List.getElem?_cons_zero, List.getD_cons_succ, List.getD_cons_zero, RelL.one, RelL.any, RelL.blk, RelL.law, RNr, RLr, RSmr] at hd
          obtain ⟨⟨g3, c3', rfl, h3⟩, -⟩ := hd
          refine held ?_
          simp only [putAll, Act.put, List.setIfInBounds_toArray, List.set_cons_succ, List.set_cons_zero]
          go_wp2_with fail
          exact relyE_done _ rfl rfl (Ext.refl _) ⟨hI.1, fun h => hI.2 (updE_falseR h)⟩
        exact trivial
      · intro listed vs W' hl hall hI hd hn
        obtain ⟨x0, x1, x2, x3, x4, x5, x6, x7, x8, x9, x10, x11, x12, rfl⟩ := lenlit13 hl; clear hl
        simp only [List.length_cons, List.length_nil, List.range, List.range.loop, Nat.zero_add, Nat.reduceAdd, factsL, atL, refV, List.getElem?_cons_succ, List.getElem?_cons_zero, List.getD_cons_succ, List.getD_cons_zero, RelL.one, RelL.any, RelL.blk, RelL.law, RNr, RLr, RSmr] at hd
        obtain ⟨rfl, rfl, rfl, rfl, rfl, rfl, rfl, rfl, rfl, rfl, -, ⟨g3, c3', rfl, h3⟩, rfl, -⟩ := hd
        simp only [putAll, Act.put, List.setIfInBounds_toArray, List.set_cons_succ, List.set_cons_zero]
        have hE5 := hI.1
        have ho5 := h3
        clear h3
        go_wp2_with fail
        refine ⟨⟨m + 1, _, _, by omega, by go_num, rfl, by rw [HTK.out]; exact ho5, hE5⟩, by simp [intOf]; omega⟩
    · obtain rfl : m = sn := by omega
      have HTK : Hid ((b.asked.take m).map (rq1 b) = rqsX b) := Lib.hid (by rw [HR.out, List.take_of_length_le (by rw [HL.out]; exact Nat.le_refl _)])
      go_wp2_with fail
      go_ret2
      refine ⟨aa, m, cc, by rw [HZ.out]; rfl, ?_, hE.trans hEr⟩
      rw [← HTK.out]
      refine ho.rw (by omega) (fun y hy => ?_)
      obtain ⟨x, hx, rfl⟩ := List.mem_map.1 hy
      exact rq1_ok HO.out (h1.wf x (List.mem_of_mem_take hx))
end Go.Proofs.YtdmfdimhjemngaaGreatDoor
