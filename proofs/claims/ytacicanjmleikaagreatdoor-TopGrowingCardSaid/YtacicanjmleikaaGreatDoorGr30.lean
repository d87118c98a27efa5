
import Derived.Test.YtacicanjmleikaaGreatDoorGr26
import Derived.Test.YtacicanjmleikaaGreatDoorGr29
/- A part of the proof. -/
namespace Go.Proofs.YtacicanjmleikaaGreatDoor
open Go.RowKit Go.Sort Go.Shelf Go.Maps
set_option linter.unusedSimpArgs false
set_option linter.unusedVariables false
set_option maxRecDepth 100000
theorem res_lgs (W : World) (b : Nat) (v0 v1 v2 v3 y0 : Value) (tmps : Array Value) (hb : tmps[4]?.getD undef = .pointer (some ⟨b, 0, none⟩)) (h5 : tmps[5]?.getD undef = y0) (h : Bk W b 67 #[v0, v1, v2, v3]) :
  (results Tryz.f19 tmps).run Tryz.prog W = .ok (.tuple #[.agg #[v0, v1, v2, v3], y0]) W := by
 have c0 := h.c 0 _ rfl
 have c1 := h.c 1 _ rfl
 have c2 := h.c 2 _ rfl
 have c3 := h.c 3 _ rfl
 simp [results, Tryz.results19, go_sem, hb, h5, c0, c1, c2, c3]
theorem lenlit12r {vs : List Value} (h : vs.length = 12) : ∃ x0 x1 x2 x3 x4 x5 x6 x7 x8 x9 x10 x11 : Value, vs = [x0, x1, x2, x3, x4, x5, x6, x7, x8, x9, x10, x11] := by
 obtain ⟨x0, v0, rfl, h0⟩ := len_cons h
 obtain ⟨x1, v1, rfl, h1⟩ := len_cons h0
 obtain ⟨x2, v2, rfl, h2⟩ := len_cons h1
 obtain ⟨x3, v3, rfl, h3⟩ := len_cons h2
 obtain ⟨x4, v4, rfl, h4⟩ := len_cons h3
 obtain ⟨x5, v5, rfl, h5⟩ := len_cons h4
 obtain ⟨x6, v6, rfl, h6⟩ := len_cons h5
 obtain ⟨x7, v7, rfl, h7⟩ := len_cons h6
 obtain ⟨x8, v8, rfl, h8⟩ := len_cons h7
 obtain ⟨x9, v9, rfl, h9⟩ := len_cons h8
 obtain ⟨x10, v10, rfl, h10⟩ := len_cons h9
 obtain ⟨x11, v11, rfl, h11⟩ := len_cons h10
 obtain rfl := len_nil h11
 exact ⟨x0, x1, x2, x3, x4, x5, x6, x7, x8, x9, x10, x11, rfl⟩
theorem lenlit30r {vs : List Value} (h : vs.length = 30) : ∃ x0 x1 x2 x3 x4 x5 x6 x7 x8 x9 x10 x11 x12 x13 x14 x15 x16 x17 x18 x19 x20 x21 x22 x23 x24 x25 x26 x27 x28 x29 : Value, vs = [x0, x1, x2, x3, x4, x5, x6, x7, x8, x9, x10, x11, x12, x13, x14, x15, x16, x17, x18, x19, x20, x21, x22, x23, x24, x25, x26, x27, x28, x29] := by
 obtain ⟨x0, v0, rfl, h0⟩ := len_cons h
 obtain ⟨x1, v1, rfl, h1⟩ := len_cons h0
 obtain ⟨x2, v2, rfl, h2⟩ := len_cons h1
 obtain ⟨x3, v3, rfl, h3⟩ := len_cons h2
 obtain ⟨x4, v4, rfl, h4⟩ := len_cons h3
 obtain ⟨x5, v5, rfl, h5⟩ := len_cons h4
 obtain ⟨x6, v6, rfl, h6⟩ := len_cons h5
 obtain ⟨x7, v7, rfl, h7⟩ := len_cons h6
 obtain ⟨x8, v8, rfl, h8⟩ := len_cons h7
 obtain ⟨x9, v9, rfl, h9⟩ := len_cons h8
 obtain ⟨x10, v10, rfl, h10⟩ := len_cons h9
 obtain ⟨x11, v11, rfl, h11⟩ := len_cons h10
 obtain ⟨x12, v12, rfl, h12⟩ := len_cons h11
 obtain ⟨x13, v13, rfl, h13⟩ := len_cons h12
 obtain ⟨x14, v14, rfl, h14⟩ := len_cons h13
 obtain ⟨x15, v15, rfl, h15⟩ := len_cons h14
 obtain ⟨x16, v16, rfl, h16⟩ := len_cons h15
 obtain ⟨x17, v17, rfl, h17⟩ := len_cons h16
 obtain ⟨x18, v18, rfl, h18⟩ := len_cons h17
 obtain ⟨x19, v19, rfl, h19⟩ := len_cons h18
 obtain ⟨x20, v20, rfl, h20⟩ := len_cons h19
 obtain ⟨x21, v21, rfl, h21⟩ := len_cons h20
 obtain ⟨x22, v22, rfl, h22⟩ := len_cons h21
 obtain ⟨x23, v23, rfl, h23⟩ := len_cons h22
 obtain ⟨x24, v24, rfl, h24⟩ := len_cons h23
 obtain ⟨x25, v25, rfl, h25⟩ := len_cons h24
 obtain ⟨x26, v26, rfl, h26⟩ := len_cons h25
 obtain ⟨x27, v27, rfl, h27⟩ := len_cons h26
 obtain ⟨x28, v28, rfl, h28⟩ := len_cons h27
 obtain ⟨x29, v29, rfl, h29⟩ := len_cons h28
 obtain rfl := len_nil h29
 exact ⟨x0, x1, x2, x3, x4, x5, x6, x7, x8, x9, x10, x11, x12, x13, x14, x15, x16, x17, x18, x19, x20, x21, x22, x23, x24, x25, x26, x27, x28, x29, rfl⟩
theorem lenlit13r {vs : List Value} (h : vs.length = 13) : ∃ x0 x1 x2 x3 x4 x5 x6 x7 x8 x9 x10 x11 x12 : Value, vs = [x0, x1, x2, x3, x4, x5, x6, x7, x8, x9, x10, x11, x12] := by
 obtain ⟨x0, v0, rfl, h0⟩ := len_cons h
 obtain ⟨x1, v1, rfl, h1⟩ := len_cons h0
 obtain ⟨x2, v2, rfl, h2⟩ := len_cons h1
 obtain ⟨x3, v3, rfl, h3⟩ := len_cons h2
 obtain ⟨x4, v4, rfl, h4⟩ := len_cons h3
 obtain ⟨x5, v5, rfl, h5⟩ := len_cons h4
 obtain ⟨x6, v6, rfl, h6⟩ := len_cons h5
 obtain ⟨x7, v7, rfl, h7⟩ := len_cons h6
 obtain ⟨x8, v8, rfl, h8⟩ := len_cons h7
 obtain ⟨x9, v9, rfl, h9⟩ := len_cons h8
 obtain ⟨x10, v10, rfl, h10⟩ := len_cons h9
 obtain ⟨x11, v11, rfl, h11⟩ := len_cons h10
 obtain ⟨x12, v12, rfl, h12⟩ := len_cons h11
 obtain rfl := len_nil h12
 exact ⟨x0, x1, x2, x3, x4, x5, x6, x7, x8, x9, x10, x11, x12, rfl⟩
theorem lenlit19r {vs : List Value} (h : vs.length = 19) : ∃ x0 x1 x2 x3 x4 x5 x6 x7 x8 x9 x10 x11 x12 x13 x14 x15 x16 x17 x18 : Value, vs = [x0, x1, x2, x3, x4, x5, x6, x7, x8, x9, x10, x11, x12, x13, x14, x15, x16, x17, x18] := by
 obtain ⟨x0, v0, rfl, h0⟩ := len_cons h
 obtain ⟨x1, v1, rfl, h1⟩ := len_cons h0
 obtain ⟨x2, v2, rfl, h2⟩ := len_cons h1
 obtain ⟨x3, v3, rfl, h3⟩ := len_cons h2
 obtain ⟨x4, v4, rfl, h4⟩ := len_cons h3
 obtain ⟨x5, v5, rfl, h5⟩ := len_cons h4
 obtain ⟨x6, v6, rfl, h6⟩ := len_cons h5
 obtain ⟨x7, v7, rfl, h7⟩ := len_cons h6
 obtain ⟨x8, v8, rfl, h8⟩ := len_cons h7
 obtain ⟨x9, v9, rfl, h9⟩ := len_cons h8
 obtain ⟨x10, v10, rfl, h10⟩ := len_cons h9
 obtain ⟨x11, v11, rfl, h11⟩ := len_cons h10
 obtain ⟨x12, v12, rfl, h12⟩ := len_cons h11
 obtain ⟨x13, v13, rfl, h13⟩ := len_cons h12
 obtain ⟨x14, v14, rfl, h14⟩ := len_cons h13
 obtain ⟨x15, v15, rfl, h15⟩ := len_cons h14
 obtain ⟨x16, v16, rfl, h16⟩ := len_cons h15
 obtain ⟨x17, v17, rfl, h17⟩ := len_cons h16
 obtain ⟨x18, v18, rfl, h18⟩ := len_cons h17
 obtain rfl := len_nil h18
 exact ⟨x0, x1, x2, x3, x4, x5, x6, x7, x8, x9, x10, x11, x12, x13, x14, x15, x16, x17, x18, rfl⟩
theorem el_oi : ElS Tryz.prog 55 RI (.int .i64 0) 1 8 := ⟨by kernel_rfl, by kernel_rfl, rfl, by decide⟩
theorem own_key {B key k : Nat} (hk : k < 3) {W : World} {g c : Nat} (h : W.ownsRow B RI 1 (.slice (some ⟨g, 0, none⟩) (k + 1) c) (k + 1) (((psK key).take k).map (Value.int .i64) ++ [.int .i64 (pubO (secK key k))])) : OwI .i64 RI B W (some ⟨g, 0, none⟩) (k + 1) c ((psK key).take (k + 1)) := by
 unfold OwI
 rw [psK_succ key hk, List.map_append]
 exact h
set_option maxHeartbeats 16000000 in
theorem r7logs_any {a : Option Addr} {n c : Nat} {l : List LgR} {key : Nat} {w : World} (H : Rw w a n c l) (hn24 : n ≤ 24) (hk : key < 18446744073709551616) (ht : TB w) :
  Calls Tryz.prog 19 #[.slice a n c, .int .u64 key] w (LgsP w key (lgL l) n) := by
 go_enter Tryz.func19, Tryz.ntmps19
 go_upto_region 1 with fail
 obtain ⟨hT0, hI0, hzs0, hsz0⟩ := el_is
 obtain ⟨i0, hi0, hz0, hs0, hb0⟩ := info_parts hI0
 have hx : Ext w (w.alloc (.cells #[.slice none 0 0, .slice none 0 0, .slice none 0 0, .slice none 0 0] RPs)) := (Ext.refl w).alloc _
 have B4 := Bk.new w RPs #[.slice none 0 0, .slice none 0 0, .slice none 0 0, .slice none 0 0]
 generalize w.alloc (.cells #[.slice none 0 0, .slice none 0 0, .slice none 0 0, .slice none 0 0] RPs) = V at *
 obtain ⟨b4, hb4⟩ : ∃ b, w.heap.size = b := ⟨_, rfl⟩
 have HB4 := Lib.hid hb4
 rw [hb4] at B4 ⊢
 clear hb4
 go_wp2_with (at_make; refine wpList_make_full _ rfl _ _ 65 rfl V.heap.size RIS i0 _ 1 Tryz.underlying65 hi0 hz0 hs0 .i64 .i64 _ _ 3 rfl rfl rfl rfl (by rw [hb0]; omega) (by unfold maxLen; omega) (Nat.le_refl _) ?_; intro w1 ho1 hg1; refine hold ?_)
 have hx1 : Ext V w1 := Below.grown (Ext.refl V) hg1 (Nat.le_refl _) (fun k e => by cases e)
 have hts : OwR RIS V.heap.size w1 (some ⟨V.heap.size, 0, none⟩) 3 3 ts0 := ⟨rfl, by rw [show (madeCells (Value.slice none 0 0).cells (3 * 1)).toList = ts0.flatMap Cel.enc by kernel_rfl] at ho1; exact ho1⟩
 clear ho1 hg1 hT0 hI0 hzs0 hsz0 hi0 hz0 hs0 hb0
 refine held ?_
 go_upto_region 2 with fail
 have B6 := Bk.new w1 RPs #[.slice none 0 0, .slice (some ⟨V.heap.size, 0, none⟩) 3 3, .slice none 0 0, .slice none 0 0]
 have hx2 : Ext w1 (w1.alloc (.cells #[.slice none 0 0, .slice (some ⟨V.heap.size, 0, none⟩) 3 3, .slice none 0 0, .slice none 0 0] RPs)) := (Ext.refl w1).alloc _
 have HSZ := Lib.hid hx1.sz
 replace hts := hts.ext hx2
 replace hx1 := hx1.trans hx2
 clear hx2
 generalize w1.alloc (.cells #[.slice none 0 0, .slice (some ⟨V.heap.size, 0, none⟩) 3 3, .slice none 0 0, .slice none 0 0] RPs) = V2 at *
 obtain ⟨b6, hb6⟩ : ∃ b, w1.heap.size = b := ⟨_, rfl⟩
 have HB6 : Hid (V.heap.size ≤ b6 ∧ b6 < V2.heap.size) := Lib.hid ⟨by rw [← hb6]; exact HSZ.out, by rw [← hb6]; exact B6.lt⟩
 rw [hb6] at B6 ⊢
 clear hb6 HSZ
 obtain ⟨tb, htb⟩ : ∃ b, V.heap.size = b := ⟨_, rfl⟩
 have HTB := Lib.hid htb
 rw [htb] at B6 hts HB6 ⊢
 clear htb
 have HK := Lib.hid hk
 clear hk
 have HL := Lib.hid H
 have HW := Lib.hid hx
 have HT := Lib.hid ht
 have bd := H.bd
 clear H hx ht
 go_wp2_with fail
 go_loopw [7] (fun kx wr => ∃ (k : Nat) (oa : Option Addr) (oc : Nat) (ka : Option Addr) (kc : Nat), k ≤ 3 ∧ kx = .int .i64 k ∧ Bk wr b6 RPs #[.slice oa k oc, .slice (some ⟨tb, 0, none⟩) 3 3, .slice none 0 0, .slice ka k kc] ∧ OwR RO tb wr oa k oc (osI k) ∧ OwI .i64 RI tb wr ka k kc ((psK key).take k) ∧ OwR RIS tb wr (some ⟨tb, 0, none⟩) 3 3 ts0 ∧ Hid (Ext V wr)) (fun kx _ => 3 - (intOf kx).toNat)
 case atStart => exact ⟨0, none, 0, none, 0, by omega, rfl, B6, OwR.nil _ _ _, OwI.nil _ _ _ _, hts, Lib.hid hx1⟩
 case round =>
  clear B6 hts hx1
  obtain ⟨k, oa, oc, ka, kc, hk3, rfl, B6, hO, hK, hT, HX⟩ := hrel
  by_cases hlt : k < 3
  ·have hlti : (k : Int) < 3 := by omega
   have hltd : decide ((k : Int) < 3) = true := decide_eq_true hlti
   have c0 := B6.c 0 _ rfl
   have hbl := B6.lt
   have hxo : Ext wr (wr.alloc (.cells #[.int .i64 ((k : Int) + 1), .slice none 0 0] RO)) := (Ext.refl wr).alloc _
   have hO2 := hO.ext hxo
   have hNO := (Bk.new wr RO #[.int .i64 ((k : Int) + 1), .slice none 0 0]).row (cs := [.int .i64 ((k : Int) + 1), .slice none 0 0])
   have hbs : tb ≤ (wr.alloc (.cells #[.int .i64 ((k : Int) + 1), .slice none 0 0] RO)).heap.size := Nat.le_trans (by have := HB6.out; omega) hxo.sz
   go_wp2_with (at_builtin; refine appC el_of rfl _ _ rfl _ tb _ _ _ _ rfl hO2.2 wr.heap.size 0 1 1 [.int .i64 ((k : Int) + 1), .slice none 0 0] rfl rfl hNO (by intro v hv; simp only [List.mem_cons, List.not_mem_nil, or_false] at hv; rcases hv with rfl | rfl <;> rfl) (by omega) hbs (by unfold maxLen; omega) (by omega) ?_; intro g5 c5 w5 h5 hB5 hG5 _; refine hold ?_)
   have hcs := own_cases hO2 hG5
   have ho5 : OwR RO tb w5 (some ⟨g5, 0, none⟩) (k + 1) c5 (osI (k + 1)) := ⟨by rw [osI_succ, List.length_append, hO.1]; rfl, by rw [osI_succ, List.flatMap_append]; exact h5⟩
   have B7 := (B6.ext hxo).growOwn hcs (by decide)
   have hK7 := (hK.ext hxo).growOwn hcs (by decide)
   have hT7 := (hT.ext hxo).growOwn hcs (by decide)
   have hX7 : Ext V w5 := Below.trans (HX.out.trans hxo) (hB5.mono (by rw [HTB.out]; exact Nat.le_refl _))
   clear hcs h5 hB5 hG5 hNO hO2 hbs hxo B6 hK hT hO c0 hbl HX
   have c0 := B7.c 0 _ rfl
   have cf := B7.free
   refine held ?_
   go_upto_region 6 with fail
   clear c0 cf
   have hB8 := B7.set 0 (.slice (some ⟨g5, 0, none⟩) (k + 1) c5)
   have ho8 := ho5.setTag B7.tag (by decide) 0 (.slice (some ⟨g5, 0, none⟩) (k + 1) c5)
   have hK8 := hK7.setTag B7.tag (by decide) 0 (.slice (some ⟨g5, 0, none⟩) (k + 1) c5)
   have hT8 := hT7.setTag B7.tag (by decide) 0 (.slice (some ⟨g5, 0, none⟩) (k + 1) c5)
   have hX8 := hX7.setCell (p := ⟨b6, 0, none⟩) (by rw [HTB.out]; exact HB6.out.1) (.slice (some ⟨g5, 0, none⟩) (k + 1) c5)
   clear B7 ho5 hK7 hT7 hX7
   generalize w5.setCell ⟨b6, 0, none⟩ (.slice (some ⟨g5, 0, none⟩) (k + 1) c5) = V8 at *
   obtain ⟨oa, hoa⟩ : ∃ z, (some ⟨g5, 0, none⟩ : Option Addr) = z := ⟨_, rfl⟩
   rw [hoa] at hB8 ho8 ⊢
   clear hoa
   have HKL := Lib.hid hlt
   have HWK : Hid (IntKind.u64.wrap ((k : Nat) : Int) = ((k : Nat) : Int)) := Lib.hid (by rw [IntKind.wrap_u64]; omega)
   obtain ⟨S5, hS5⟩ : ∃ z, IntKind.u64.wrap ((key : Int) + (k : Int)) = z := ⟨_, rfl⟩
   have HS5 := Lib.hid hS5
   have HV5 : Hid (S5 = (((key + k) % 18446744073709551616 : Nat) : Int)) := Lib.hid (by rw [← hS5, IntKind.wrap_u64]; omega)
   clear hS5 hlti hltd
   have HII : K6 V tb b6 k oa c5 ka kc key (fun _ => false) { V8 with drawn := V8.drawn + 1 } := ⟨hX8.drew, HTB.out, ho8.ext (Ext.refl V8).drew, hT8.ext (Ext.refl V8).drew, fun _ => hB8.ext (Ext.refl V8).drew, fun _ => hK8.ext (Ext.refl V8).drew, fun h9 => by cases h9⟩
   clear hB8 ho8 hK8 hT8 hX8
   refine region_relyG (K6 V tb b6 k oa c5 ka kc key) [some 32, some 33, some 34, some 35, some 36, some 37, some 38, some 39, some 40, some 41, some 42, none] [[], [0], [], [], [3], [2, 3, 4], [2, 3, 4, 5], [2, 3, 4, 5, 6], [2, 3, 4, 5, 6, 7], [0, 1, 2, 3, 4, 5, 6, 7, 8], [0, 1, 2, 3, 4, 5, 6, 7, 8, 9], [0, 1, 2, 3, 4, 5, 6, 7, 8, 9, 10]] [[], [0], [], [], [3], [2, 4], [5], [6], [7], [1, 8], [], [9, 10]] [none, none, none, none, none, none, none, none, none, none, none, none] [false, false, false, false, false, false, false, false, false, false, false, false] [[], [], [], [], [], [], [], [], [], [8], [], [8, 9]] [] [.one ((.pointer (some ⟨b6, 3, none⟩))), .one ((.slice ka k kc)), .one ((.int .u64 (key : Nat))), .one ((.int .i64 (k : Nat))), .one ((.int .u64 (k : Nat))), .one ((.int .u64 S5)), .one ((.int .i64 (secK key k : Nat))), .one ((.int .i64 (pubO (secK key k)))), RKl tb (pubO (secK key k)), RKo tb (k + 1) ((psK key).take (k + 1)), .one ((.pointer (some ⟨b6, 3, none⟩))), .any] (by kernel_rfl) (by kernel_rfl) (by kernel_rfl) rfl HII ?_ ?_
   ·refine stepsG_cons ?_ ?_
    ·as_aux_lemma =>
     intro listed vs W' hl hI hd hs hn hu hz ho9
     refine hold ?_
     obtain ⟨x0, x1, x2, x3, x4, x5, x6, x7, x8, x9, x10, x11, rfl⟩ := lenlit12r hl; clear hl
     refine held ?_
     simp only [putAll, Act.put, List.setIfInBounds_toArray, List.set_cons_succ, List.set_cons_zero]
     go_wp2_with fail
     exact relyG_done _ rfl rfl (Ext.refl _) (hI.other (by decide) (by decide) (Ext.refl _))
    refine stepsG_cons ?_ ?_
    ·as_aux_lemma =>
     intro listed vs W' hl hI hd hs hn hu hz ho9
     refine hold ?_
     obtain ⟨x0, x1, x2, x3, x4, x5, x6, x7, x8, x9, x10, x11, rfl⟩ := lenlit12r hl; clear hl
     simp only [factsL, atL, refV, List.getElem?_cons_succ, List.getElem?_cons_zero, List.getD_cons_succ, List.getD_cons_zero, RelL.one, RelL.any, RelL.blk, RelL.law, RKl, RKo] at hd
     obtain ⟨rfl, -⟩ := hd
     refine held ?_
     simp only [putAll, Act.put, List.setIfInBounds_toArray, List.set_cons_succ, List.set_cons_zero]
     have d3 := (hI.blk (notL hu 11 (by decide))).c 3 _ rfl
     go_wp2_with fail
     exact relyG_done _ rfl rfl (Ext.refl _) (hI.other (by decide) (by decide) (Ext.refl _))
    refine stepsG_cons ?_ ?_
    ·as_aux_lemma =>
     intro listed vs W' hl hI hd hs hn hu hz ho9
     refine hold ?_
     obtain ⟨x0, x1, x2, x3, x4, x5, x6, x7, x8, x9, x10, x11, rfl⟩ := lenlit12r hl; clear hl
     refine held ?_
     simp only [putAll, Act.put, List.setIfInBounds_toArray, List.set_cons_succ, List.set_cons_zero]
     go_wp2_with fail
     exact relyG_done _ rfl rfl (Ext.refl _) (hI.other (by decide) (by decide) (Ext.refl _))
    refine stepsG_cons ?_ ?_
    ·as_aux_lemma =>
     intro listed vs W' hl hI hd hs hn hu hz ho9
     refine hold ?_
     obtain ⟨x0, x1, x2, x3, x4, x5, x6, x7, x8, x9, x10, x11, rfl⟩ := lenlit12r hl; clear hl
     refine held ?_
     simp only [putAll, Act.put, List.setIfInBounds_toArray, List.set_cons_succ, List.set_cons_zero]
     go_wp2_with fail
     exact relyG_done _ rfl rfl (Ext.refl _) (hI.other (by decide) (by decide) (Ext.refl _))
    refine stepsG_cons ?_ ?_
    ·as_aux_lemma =>
     intro listed vs W' hl hI hd hs hn hu hz ho9
     refine hold ?_
     obtain ⟨x0, x1, x2, x3, x4, x5, x6, x7, x8, x9, x10, x11, rfl⟩ := lenlit12r hl; clear hl
     simp only [factsL, atL, refV, List.getElem?_cons_succ, List.getElem?_cons_zero, List.getD_cons_succ, List.getD_cons_zero, RelL.one, RelL.any, RelL.blk, RelL.law, RKl, RKo] at hd
     obtain ⟨rfl, -⟩ := hd
     refine held ?_
     simp only [putAll, Act.put, List.setIfInBounds_toArray, List.set_cons_succ, List.set_cons_zero]
     have hwk := HWK.out
     go_wp2_with fail
     exact relyG_done _ rfl rfl (Ext.refl _) (hI.other (by decide) (by decide) (Ext.refl _))
    refine stepsG_cons ?_ ?_
    ·as_aux_lemma =>
     intro listed vs W' hl hI hd hs hn hu hz ho9
     refine hold ?_
     obtain ⟨x0, x1, x2, x3, x4, x5, x6, x7, x8, x9, x10, x11, rfl⟩ := lenlit12r hl; clear hl
     simp only [factsL, atL, refV, List.getElem?_cons_succ, List.getElem?_cons_zero, List.getD_cons_succ, List.getD_cons_zero, RelL.one, RelL.any, RelL.blk, RelL.law, RKl, RKo] at hd
     obtain ⟨rfl, rfl, -⟩ := hd
     refine held ?_
     simp only [putAll, Act.put, List.setIfInBounds_toArray, List.set_cons_succ, List.set_cons_zero]
     have hs5 := HS5.out
     go_wp2_with fail
     exact relyG_done _ rfl rfl (Ext.refl _) (hI.other (by decide) (by decide) (Ext.refl _))
    refine stepsG_cons ?_ ?_
    ·as_aux_lemma =>
     intro listed vs W' hl hI hd hs hn hu hz ho9
     refine hold ?_
     obtain ⟨x0, x1, x2, x3, x4, x5, x6, x7, x8, x9, x10, x11, rfl⟩ := lenlit12r hl; clear hl
     simp only [factsL, atL, refV, List.getElem?_cons_succ, List.getElem?_cons_zero, List.getD_cons_succ, List.getD_cons_zero, RelL.one, RelL.any, RelL.blk, RelL.law, RKl, RKo] at hd
     obtain ⟨rfl, -⟩ := hd
     refine held ?_
     simp only [putAll, Act.put, List.setIfInBounds_toArray, List.set_cons_succ, List.set_cons_zero]
     go_wp2_with (go_at_call 10; refine (secK_run HV5.out _).mono ?_; rintro e9 w9 ⟨rfl, rfl⟩)
     exact relyG_done _ rfl rfl (Ext.refl _) (hI.other (by decide) (by decide) (Ext.refl _))
    refine stepsG_cons ?_ ?_
    ·as_aux_lemma =>
     intro listed vs W' hl hI hd hs hn hu hz ho9
     refine hold ?_
     obtain ⟨x0, x1, x2, x3, x4, x5, x6, x7, x8, x9, x10, x11, rfl⟩ := lenlit12r hl; clear hl
     simp only [factsL, atL, refV, List.getElem?_cons_succ, List.getElem?_cons_zero, List.getD_cons_succ, List.getD_cons_zero, RelL.one, RelL.any, RelL.blk, RelL.law, RKl, RKo] at hd
     obtain ⟨rfl, -⟩ := hd
     refine held ?_
     simp only [putAll, Act.put, List.setIfInBounds_toArray, List.set_cons_succ, List.set_cons_zero]
     go_wp2_with (go_at_call 13; refine (pubK_run key k _).mono ?_; rintro e9 w9 ⟨rfl, rfl⟩)
     exact relyG_done _ rfl rfl (Ext.refl _) (hI.other (by decide) (by decide) (Ext.refl _))
    refine stepsG_cons ?_ ?_
    ·as_aux_lemma =>
     intro listed vs W' hl hI hd hs hn hu hz ho9
     refine hold ?_
     obtain ⟨x0, x1, x2, x3, x4, x5, x6, x7, x8, x9, x10, x11, rfl⟩ := lenlit12r hl; clear hl
     simp only [factsL, atL, refV, List.getElem?_cons_succ, List.getElem?_cons_zero, List.getD_cons_succ, List.getD_cons_zero, RelL.one, RelL.any, RelL.blk, RelL.law, RKl, RKo] at hd
     obtain ⟨rfl, -⟩ := hd
     refine held ?_
     simp only [putAll, Act.put, List.setIfInBounds_toArray, List.set_cons_succ, List.set_cons_zero]
     go_wp2_with fail
     exact relyG_done _ rfl ⟨_, rfl, hI.tbs, Bk.new W' _ _⟩ ((Ext.refl _).alloc _) (hI.other (by decide) (by decide) ((Ext.refl _).alloc _))
    refine stepsG_cons ?_ ?_
    ·as_aux_lemma =>
     intro listed vs W' hl hI hd hs hn hu hz ho9
     refine hold ?_
     obtain ⟨x0, x1, x2, x3, x4, x5, x6, x7, x8, x9, x10, x11, rfl⟩ := lenlit12r hl; clear hl
     simp only [factsL, atL, refV, List.getElem?_cons_succ, List.getElem?_cons_zero, List.getD_cons_succ, List.getD_cons_zero, RelL.one, RelL.any, RelL.blk, RelL.law, RKl, RKo] at hd
     obtain ⟨rfl, ⟨p8, rfl, hp8, hb8⟩, -⟩ := hd
     refine held ?_
     simp only [putAll, Act.put, List.setIfInBounds_toArray, List.set_cons_succ, List.set_cons_zero]
     have hk9 := hI.keys hz
     have hr8 := hb8.row (cs := [.int .i64 (pubO (secK key k))])
     go_wp2_with (at_builtin; refine appC el_oi rfl _ _ rfl _ tb _ _ _ _ rfl hk9 p8 0 1 1 [.int .i64 (pubO (secK key k))] rfl rfl hr8 (by intro v hv; simp only [List.mem_cons, List.not_mem_nil, or_false] at hv; rcases hv with rfl; rfl) (by omega) hI.tbs (by have := HKL.out; unfold maxLen; omega) (by have := HKL.out; omega) ?_; intro g9 c9 w9 ho9x hB9 hG9 _; refine hold ?_)
     refine held ?_
     go_wp2_with fail
     exact relyG_store _ rfl ⟨g9, c9, rfl, own_key HKL.out ho9x⟩ hG9.size ⟨(fun _ _ _ h9 => h9), (fun _ _ _ h9 => h9), (fun _ _ _ h9 => h9), (fun _ _ _ h9 => h9), (fun _ _ _ h9 => h9), (fun _ _ _ h9 => h9), (fun _ _ _ h9 => h9), (fun _ _ _ h9 => h9), (fun h9 => by simp at h9), (fun _ _ h9 _ => absurd rfl h9), (fun _ hl9 _ _ => absurd (by decide) (hu 10 hl9)), (fun _ hl9 _ _ => absurd (by decide) (hu 11 hl9)), trivial⟩ (hI.app hz (notL hu 11 (by decide)) hB9 hG9)
    refine stepsG_cons ?_ ?_
    ·as_aux_lemma =>
     intro listed vs W' hl hI hd hs hn hu hz ho9
     refine hold ?_
     obtain ⟨x0, x1, x2, x3, x4, x5, x6, x7, x8, x9, x10, x11, rfl⟩ := lenlit12r hl; clear hl
     refine held ?_
     simp only [putAll, Act.put, List.setIfInBounds_toArray, List.set_cons_succ, List.set_cons_zero]
     go_wp2_with fail
     exact relyG_done _ rfl rfl (Ext.refl _) (hI.other (by decide) (by decide) (Ext.refl _))
    refine stepsG_cons ?_ ?_
    ·as_aux_lemma =>
     intro listed vs W' hl hI hd hs hn hu hz ho9
     refine hold ?_
     obtain ⟨x0, x1, x2, x3, x4, x5, x6, x7, x8, x9, x10, x11, rfl⟩ := lenlit12r hl; clear hl
     simp only [factsL, atL, refV, List.getElem?_cons_succ, List.getElem?_cons_zero, List.getD_cons_succ, List.getD_cons_zero, RelL.one, RelL.any, RelL.blk, RelL.law, RKl, RKo] at hd
     obtain ⟨⟨g9, c9, rfl, ho9x⟩, rfl, -⟩ := hd
     refine held ?_
     simp only [putAll, Act.put, List.setIfInBounds_toArray, List.set_cons_succ, List.set_cons_zero]
     have hB11 := hI.blk hz
     have d3 := hB11.c 3 _ rfl
     have df := hB11.free
     go_wp2_with fail
     exact relyG_store undef rfl trivial (by simp [World.setCell]) ⟨(fun _ _ _ h9 => h9), (fun _ _ _ h9 => h9), (fun _ _ _ h9 => h9), (fun _ _ _ h9 => h9), (fun _ _ _ h9 => h9), (fun _ _ _ h9 => h9), (fun _ _ _ h9 => h9), (fun _ _ _ h9 => h9), (fun h9 => by simp at h9), (fun h9 => by simp at h9), (fun _ _ _ h9 => h9), (fun _ _ h9 _ => absurd rfl h9), trivial⟩ (hI.store hz (hs 9 (by decide)) HB6.out.1 ho9x)
    exact trivial
   ·intro listed vs W' hl hall hI hd hn
    obtain ⟨x0, x1, x2, x3, x4, x5, x6, x7, x8, x9, x10, x11, rfl⟩ := lenlit12r hl; clear hl
    simp only [List.length_cons, List.length_nil, factsL, atL, refV, List.getElem?_cons_succ, List.getElem?_cons_zero, List.getD_cons_succ, List.getD_cons_zero, RelL.one, RelL.any, RelL.blk, RelL.law, RKl, RKo] at hd
    obtain ⟨-⟩ := hd
    simp only [putAll, Act.put, List.setIfInBounds_toArray, List.set_cons_succ, List.set_cons_zero]
    obtain ⟨a9, c9, hB9, hK9⟩ := hI.fin (hall 11 (by decide))
    have hO9 := hI.off
    have hT9 := hI.tim
    have hX9 := hI.ex
    clear hI hn hall
    go_wp2_with fail
    exact ⟨⟨k + 1, oa, c5, a9, c9, by omega, by go_num, hB9, hO9, hK9, hT9, Lib.hid hX9⟩, by simp only [intOf]; omega⟩
  ·obtain rfl : 3 = k := by omega
   have hP0 := PRep.start B6 hO hK hT
   clear B6 hO hK hT
   obtain ⟨ob, hoa⟩ : ∃ ob, oa = some ⟨ob, 0, none⟩ := by
    rcases hP0.off.headAt with ⟨_, h3, _⟩ | ⟨q, e, _⟩
    ·omega
    ·exact ⟨q, e⟩
   subst hoa
   rw [show ((3 : Nat) : Int) = (3 : Int) from rfl]
   go_wp2_with fail
   go_loopw [8, 9] (fun ax ix wr => ∃ (i oc : Nat) (ha : Option Addr) (hn hc : Nat) (ka : Option Addr) (kc : Nat) (os : List OfR) (ts : List TsR), i ≤ n ∧ ax = .int .i64 (runP key (lgL l) i).now ∧ ix = .int .i64 i ∧ PRep tb wr b6 key (runP key (lgL l) i) (some ⟨ob, 0, none⟩) oc (some ⟨tb, 0, none⟩) 3 ha hn hc ka kc os ts ∧ Hid (Ext V wr)) (fun _ ix _ => n - (intOf ix).toNat)
   case atStart => exact ⟨0, oc, none, 0, 0, ka, kc, osI 3, ts0, by omega, rfl, rfl, hP0, HX⟩
   case round =>
    clear hP0 HX
    obtain ⟨i, oc, ha, hn, hc, ka, kc, os, ts, hi, rfl, rfl, hP, HX⟩ := hrel
    by_cases hlt : i < n
    ·obtain ⟨x1, o1, rfl, hc1⟩ := HL.out.at (by omega)
     have hr := rangeAt_ext (hc1 i hlt) (HW.out.trans HX.out)
     rw [sz_lg] at hr
     have hlx := Nat.lt_of_lt_of_le (Rw.lt HL.out rfl (by omega)) (HW.out.trans HX.out).sz
     obtain ⟨d0, d1, d2, d3, d4, d5, d6⟩ := cells_lgN hr (HL.out.wfAt hlt)
     clear hc1 hr
     have HOK := Lib.hid (run_ok key (lgL l) (lgL_ok HL.out) i)
     have HXO := Lib.hid (lgL_ok HL.out i)
     have HST : Hid (runP key (lgL l) (i + 1) = stepP key i (runP key (lgL l) i) (lgN (nthR l i))) := Lib.hid rfl
     generalize runP key (lgL l) i = s at *
     replace HXO : Hid ((lgN (nthR l i)).Ok) := HXO
     generalize lgN (nthR l i) = X at *
     obtain ⟨Xd, Xw, Xh, Xt, Xl, Xr, Xc⟩ := X
     simp only at d0 d1 d2 d3 d4 d5 d6
     have HNW : Hid (0 ≤ s.now ∧ s.now ≤ 24 * 65536) := Lib.hid (by have := HOK.out.now; omega)
     have HXB : Hid (Xd ≤ 255 ∧ Xw ≤ 255 ∧ Xh ≤ 255 ∧ Xt ≤ 65535 ∧ Xl ≤ 65535 ∧ Xr ≤ 65535 ∧ Xc ≤ 4294967295) := Lib.hid ⟨HXO.out.do_, HXO.out.who, HXO.out.which, HXO.out.wait, HXO.out.left, HXO.out.right, HXO.out.doc⟩
     go_upto_region 12 with fail
     clear d0 d1 d2 d3 d4 d5 d6 hlx
     have HB := Bk.new wr 115 #[.int .u8 (Xd : Nat), .int .u8 (Xw : Nat), .int .u8 (Xh : Nat), .int .u16 (Xt : Nat), .int .u16 (Xl : Nat), .int .u16 (Xr : Nat), .int .u32 (Xc : Nat)]
     have hxb : Ext wr (wr.alloc (.cells #[.int .u8 (Xd : Nat), .int .u8 (Xw : Nat), .int .u8 (Xh : Nat), .int .u16 (Xt : Nat), .int .u16 (Xl : Nat), .int .u16 (Xr : Nat), .int .u32 (Xc : Nat)] 115)) := (Ext.refl wr).alloc _
     replace hP := hP.ext hxb
     replace HX := Lib.hid (HX.out.trans hxb)
     clear hxb
     generalize wr.alloc (.cells #[.int .u8 (Xd : Nat), .int .u8 (Xw : Nat), .int .u8 (Xh : Nat), .int .u16 (Xt : Nat), .int .u16 (Xl : Nat), .int .u16 (Xr : Nat), .int .u32 (Xc : Nat)] 115) = U0 at *
     obtain ⟨xb, hxb⟩ : ∃ b, wr.heap.size = b := ⟨_, rfl⟩
     rw [hxb] at HB ⊢
     clear hxb
     have e1 := HB.c 1 _ rfl
     have e3 := HB.c 3 _ rfl
     have e0 := HB.c 0 _ rfl
     obtain ⟨y1, y2, y3, y4, y5, y6, y7⟩ := HXB.out
     obtain ⟨n1, n2⟩ := HNW.out
     go_upto_region 13 with fail
     rw [show ((Xw : Int) % 3) = ((Xw % 3 : Nat) : Int) by omega]
     obtain ⟨k, hk⟩ : ∃ k, Xw % 3 = k := ⟨_, rfl⟩
     have HKE := Lib.hid hk
     have HK3 : Hid (k < 3) := Lib.hid (by rw [← hk]; exact Nat.mod_lt _ (by omega))
     rw [hk]
     clear hk
     go_upto_region 14 with fail
     obtain ⟨T, hT⟩ : ∃ T, s.now + (1 + (Xt : Int)) = T := ⟨_, rfl⟩
     have HT9 : Hid (s.now + 1 + (Xt : Int) = T) := Lib.hid (by rw [← hT]; omega)
     have HTR : Hid (0 ≤ T ∧ T ≤ 25 * 65536) := Lib.hid (by rw [← hT]; omega)
     rw [hT]
     clear hT n1 n2 e3
     obtain ⟨OA, hOA⟩ : ∃ x, (nthR os k).a = x := ⟨_, rfl⟩
     obtain ⟨ln, hln⟩ : ∃ x, (s.lg k).length = x := ⟨_, rfl⟩
     obtain ⟨oc3, hoc⟩ : ∃ x, (nthR os k).c = x := ⟨_, rfl⟩
     have HOA : Hid ((nthR os k).a = OA ∧ (s.lg k).length = ln ∧ (nthR os k).c = oc3) := Lib.hid ⟨hOA, hln, hoc⟩
     have HHN : Hid (s.hs.length = hn) := Lib.hid hP.hlen
     have HH12 : Hid (hn ≤ 12) := Lib.hid (by have := HOK.out.hlen.1; have := hP.hlen; omega)
     have HLN : Hid (ln ≤ 24) := Lib.hid (by have := (HOK.out.len k).2; omega)
     have HLR : Hid (Rw U0 OA ln oc3 (s.lg k)) := Lib.hid (by have h9 := hP.logAt HK3.out HOK.out (by omega); rw [hOA, hln, hoc] at h9; exact h9)
     clear hOA hln hoc
     by_cases hdo : Xd % 4 = 1
     ·as_aux_lemma =>
      have m1 : ((Xd : Int) % 4 == 1) = true := by simp; omega
      have m2 : ((Xd : Int) % 4) = 1 := by omega
      have HDO := Lib.hid hdo
      clear hdo
      by_cases hz : ln = 0
      ·have HR : Hid (runP key (lgL l) (i + 1) = ⟨T, s.lg, s.tm, s.hs, s.st⟩) := Lib.hid (by rw [HST.out, step_still (x := ⟨Xd, Xw, Xh, Xt, Xl, Xr, Xc⟩) HDO.out (.inl (by show (s.lg (Xw % 3)).length = 0; rw [HKE.out, HOA.out.2.1]; exact hz)), ← HT9.out])
       have hPR : PRep tb U0 b6 key (runP key (lgL l) (i + 1)) (some ⟨ob, 0, none⟩) oc (some ⟨tb, 0, none⟩) 3 ha hn hc ka kc os ts := by rw [HR.out]; exact hP.time T
       have z1 : ((ln : Int) == 0) = true := by simp [hz]
       have HZ := Lib.hid hz
       clear hz
       go_upto_region 15 with fail
       clear e0 e1
       have p0 := hP.blk.c 0 _ rfl
       have p2 := hP.blk.c 2 _ rfl
       obtain ⟨p3, p4⟩ := hP.offAt HK3.out
       rw [HOA.out.1, HOA.out.2.1, HOA.out.2.2] at p4
       have k3 := HK3.out
       go_wp2_with fail
       exact ⟨⟨i + 1, oc, ha, hn, hc, ka, kc, os, ts, by omega, by rw [HR.out], by go_num, hPR, HX⟩, by simp only [intOf]; omega⟩
      ·by_cases h12 : hn = 12
       ·have HR : Hid (runP key (lgL l) (i + 1) = ⟨T, s.lg, s.tm, s.hs, s.st⟩) := Lib.hid (by rw [HST.out, step_still (x := ⟨Xd, Xw, Xh, Xt, Xl, Xr, Xc⟩) HDO.out (.inr (by rw [HHN.out]; exact h12)), ← HT9.out])
        have hPR : PRep tb U0 b6 key (runP key (lgL l) (i + 1)) (some ⟨ob, 0, none⟩) oc (some ⟨tb, 0, none⟩) 3 ha hn hc ka kc os ts := by rw [HR.out]; exact hP.time T
        have z1 : ((ln : Int) == 0) = false := by simp [hz]
        have z2 : ((hn : Int) == 12) = true := by simp [h12]
        have H1z := Lib.hid h12
        clear hz h12
        go_upto_region 15 with fail
        clear e0 e1
        have p0 := hP.blk.c 0 _ rfl
        have p2 := hP.blk.c 2 _ rfl
        obtain ⟨p3, p4⟩ := hP.offAt HK3.out
        rw [HOA.out.1, HOA.out.2.1, HOA.out.2.2] at p4
        have k3 := HK3.out
        go_wp2_with fail
        exact ⟨⟨i + 1, oc, ha, hn, hc, ka, kc, os, ts, by omega, by rw [HR.out], by go_num, hPR, HX⟩, by simp only [intOf]; omega⟩
       ·have z1 : ((ln : Int) == 0) = false := by simp [hz]
        have z2 : ((hn : Int) == 12) = false := by simp; omega
        have HZ : Hid (ln ≠ 0 ∧ hn ≠ 12) := Lib.hid ⟨hz, h12⟩
        clear hz h12
        go_upto_region 15 with fail
        clear e0 e1
        have p0 := hP.blk.c 0 _ rfl
        have p2 := hP.blk.c 2 _ rfl
        obtain ⟨p3, p4⟩ := hP.offAt HK3.out
        rw [HOA.out.1, HOA.out.2.1, HOA.out.2.2] at p4
        have k3 := HK3.out
        go_upto_region 16 with fail
        clear p0 p2 p3 p4 k3 z1 z2 m1 m2
        have HWK : Hid (IntKind.u64.wrap ((k : Nat) : Int) = ((k : Nat) : Int)) := Lib.hid (by have h3 := HK3.out; rw [IntKind.wrap_u64]; omega)
        obtain ⟨S5, hS5⟩ : ∃ z, IntKind.u64.wrap ((key : Int) + (k : Int)) = z := ⟨_, rfl⟩
        have HS5 := Lib.hid hS5
        have HV5 : Hid (S5 = (((key + k) % 18446744073709551616 : Nat) : Int)) := Lib.hid (by rw [← hS5, IntKind.wrap_u64]; omega)
        have HW6 : Hid (IntKind.u64.wrap (50 + ((i : Nat) : Int)) = 50 + ((i : Nat) : Int)) := Lib.hid (by rw [IntKind.wrap_u64]; omega)
        obtain ⟨S7, hS7⟩ : ∃ z, IntKind.u64.wrap ((key : Int) + (50 + (i : Int))) = z := ⟨_, rfl⟩
        have HS7 := Lib.hid hS7
        have HV7 : Hid (S7 = (((key + (50 + i)) % 18446744073709551616 : Nat) : Int)) := Lib.hid (by rw [← hS7, IntKind.wrap_u64]; omega)
        clear hS5 hS7
        have HSG := Lib.hid (fun (W : World) (hx : Ext U0 W) => osign_yes ((k : Int) + 1) OA ln oc3 (s.lg k) ln (secK key k) (secK key (50 + i)) W (HLR.out.ext hx) (HOK.out.off (by omega) HK3.out) (by have := HZ.out; omega) (Nat.le_refl _) (secK_ok _ _) (secK_ok _ _) (HT.out.ext ((HW.out.trans HX.out).trans hx)))
        have HR : Hid (runP key (lgL l) (i + 1) = ⟨T, s.lg, s.tm, s.hs ++ [sgHd ((k : Int) + 1) (s.lg k) ln (secK key k) (secK key (50 + i))], s.st ++ [T]⟩) := Lib.hid (by
         rw [HST.out, step_sign (x := ⟨Xd, Xw, Xh, Xt, Xl, Xr, Xc⟩) HDO.out (by show (s.lg (Xw % 3)).length ≠ 0; rw [HKE.out, HOA.out.2.1]; exact HZ.out.1) (by rw [HHN.out]; exact HZ.out.2)]
         simp only [HKE.out, HOA.out.2.1, HT9.out])
        obtain ⟨g, hg⟩ : ∃ g, sgHd ((k : Int) + 1) (s.lg k) ln (secK key k) (secK key (50 + i)) = g := ⟨_, rfl⟩
        rw [hg] at HR HSG
        unfold hdV at HSG
        clear hg
        refine region_relyG (fun _ W => Ext U0 W) [some 82, some 83, some 84, some 85, some 86, some 87, some 88, some 89, some 90, some 91, some 92, some 93, some 94, some 95, some 96, some 97, some 98, some 99, some 100, some 101, some 102, some 103, some 104, some 105, some 81, some 106, some 107, some 12, none, some 13] [[], [0], [], [0, 1, 2], [0, 1, 2, 3], [], [5], [], [5, 6, 7], [5, 6, 7, 8], [5, 6, 7, 8, 9], [5, 6, 7, 8, 9, 10], [], [], [13], [12, 13, 14], [12, 13, 14, 15], [], [], [18], [18, 19], [17, 18, 19, 20], [12, 13, 14, 15, 16, 17, 18, 19, 20, 21], [0, 1, 2, 3, 4, 5, 6, 7, 8, 9, 10, 11, 12, 13, 14, 15, 16, 17, 18, 19, 20, 21, 22], [0, 1, 2, 3, 4, 5, 6, 7, 8, 9, 10, 11, 12, 13, 14, 15, 16, 17, 18, 19, 20, 21, 22, 23], [0, 1, 2, 3, 4, 5, 6, 7, 8, 9, 10, 11, 12, 13, 14, 15, 16, 17, 18, 19, 20, 21, 22, 23, 24], [0, 1, 2, 3, 4, 5, 6, 7, 8, 9, 10, 11, 12, 13, 14, 15, 16, 17, 18, 19, 20, 21, 22, 23, 24], [], [0, 1, 2, 3, 4, 5, 6, 7, 8, 9, 10, 11, 12, 13, 14, 15, 16, 17, 18, 19, 20, 21, 22, 23, 24, 25, 27], [0, 1, 2, 3, 4, 5, 6, 7, 8, 9, 10, 11, 12, 13, 14, 15, 16, 17, 18, 19, 20, 21, 22, 23, 24, 25, 26, 27, 28]] [[], [0], [], [1, 2], [3], [], [5], [], [6, 7], [8], [9], [10], [], [], [13], [12, 14], [15], [], [], [18], [19], [17, 20], [21], [4, 11, 16, 22], [23], [24], [24], [], [25, 27], [26]] [none, none, none, none, none, none, none, none, none, none, none, none, none, none, none, none, none, none, none, none, none, none, none, none, none, none, none, none, some 27, none] [false, false, false, false, false, false, false, false, false, false, false, false, false, false, false, false, false, false, false, false, false, false, false, false, false, false, false, false, false, false] [[], [], [], [], [], [], [], [], [], [], [], [], [], [], [], [], [], [], [], [], [], [], [], [], [], [], [], [], [27], []] [28, 29] [.one ((.pointer (some ⟨b6, 0, none⟩))), .one ((.slice (some ⟨ob, 0, none⟩) 3 oc)), .one ((.int .i64 (k : Nat))), .one ((.pointer (some ⟨ob, k * 2, none⟩))), .one ((.agg #[.int .i64 ((k : Int) + 1), .slice OA ln oc3])), .one ((.pointer (some ⟨b6, 0, none⟩))), .one ((.slice (some ⟨ob, 0, none⟩) 3 oc)), .one ((.int .i64 (k : Nat))), .one ((.pointer (some ⟨ob, k * 2, none⟩))), .one ((.pointer (some ⟨ob, k * 2 + 1, none⟩))), .one ((.slice OA ln oc3)), .one ((.int .i64 (ln : Nat))), .one ((.int .u64 (key : Nat))), .one ((.int .i64 (k : Nat))), .one ((.int .u64 (k : Nat))), .one ((.int .u64 S5)), .one ((.int .i64 (secK key k : Nat))), .one ((.int .u64 (key : Nat))), .one ((.int .i64 (i : Nat))), .one ((.int .i64 (50 + ((i : Nat) : Int)))), .one ((.int .u64 (50 + ((i : Nat) : Int)))), .one ((.int .u64 S7)), .one ((.int .i64 (secK key (50 + i) : Nat))), .one ((.tuple #[.agg #[.int .i64 g.o, .int .i64 g.s, .int .u64 g.r, .int .i64 g.C, .int .i64 g.S], .int .i64 0])), .one ((.tuple #[.agg #[.int .i64 g.o, .int .i64 g.s, .int .u64 g.r, .int .i64 g.C, .int .i64 g.S], .int .i64 0])), .one ((.agg #[.int .i64 g.o, .int .i64 g.s, .int .u64 g.r, .int .i64 g.C, .int .i64 g.S])), .one ((.int .i64 0)), RNw U0.heap.size RH #[.int .i64 0, .int .i64 0, .int .u64 0, .int .i64 0, .int .i64 0], RAt 27 U0.heap.size RH #[.int .i64 g.o, .int .i64 g.s, .int .u64 g.r, .int .i64 g.C, .int .i64 g.S], .one ((.int .i64 0))] (by kernel_rfl) (by kernel_rfl) (by kernel_rfl) rfl (Ext.refl U0).drew ?_ ?_
        ·refine stepsG_cons ?_ ?_
         ·as_aux_lemma =>
          intro listed vs W' hl hI hd hs hn hu hz ho9
          refine hold ?_
          obtain ⟨x0, x1, x2, x3, x4, x5, x6, x7, x8, x9, x10, x11, x12, x13, x14, x15, x16, x17, x18, x19, x20, x21, x22, x23, x24, x25, x26, x27, x28, x29, rfl⟩ := lenlit30r hl; clear hl
          refine held ?_
          simp only [putAll, Act.put, List.setIfInBounds_toArray, List.set_cons_succ, List.set_cons_zero]
          go_wp2_with fail
          exact relyG_done _ rfl rfl (Ext.refl _) hI
         refine stepsG_cons ?_ ?_
         ·as_aux_lemma =>
          intro listed vs W' hl hI hd hs hn hu hz ho9
          refine hold ?_
          obtain ⟨x0, x1, x2, x3, x4, x5, x6, x7, x8, x9, x10, x11, x12, x13, x14, x15, x16, x17, x18, x19, x20, x21, x22, x23, x24, x25, x26, x27, x28, x29, rfl⟩ := lenlit30r hl; clear hl
          simp only [factsL, atL, refV, List.getElem?_cons_succ, List.getElem?_cons_zero, List.getD_cons_succ, List.getD_cons_zero, RelL.one, RelL.any, RelL.blk, RelL.law, RNw, RAt] at hd
          obtain ⟨rfl, -⟩ := hd
          refine held ?_
          simp only [putAll, Act.put, List.setIfInBounds_toArray, List.set_cons_succ, List.set_cons_zero]
          have hP9 := hP.ext hI
          have d0 := hP9.blk.c 0 _ rfl
          go_wp2_with fail
          exact relyG_done _ rfl rfl (Ext.refl _) hI
         refine stepsG_cons ?_ ?_
         ·as_aux_lemma =>
          intro listed vs W' hl hI hd hs hn hu hz ho9
          refine hold ?_
          obtain ⟨x0, x1, x2, x3, x4, x5, x6, x7, x8, x9, x10, x11, x12, x13, x14, x15, x16, x17, x18, x19, x20, x21, x22, x23, x24, x25, x26, x27, x28, x29, rfl⟩ := lenlit30r hl; clear hl
          refine held ?_
          simp only [putAll, Act.put, List.setIfInBounds_toArray, List.set_cons_succ, List.set_cons_zero]
          go_wp2_with fail
          exact relyG_done _ rfl rfl (Ext.refl _) hI
         refine stepsG_cons ?_ ?_
         ·as_aux_lemma =>
          intro listed vs W' hl hI hd hs hn hu hz ho9
          refine hold ?_
          obtain ⟨x0, x1, x2, x3, x4, x5, x6, x7, x8, x9, x10, x11, x12, x13, x14, x15, x16, x17, x18, x19, x20, x21, x22, x23, x24, x25, x26, x27, x28, x29, rfl⟩ := lenlit30r hl; clear hl
          simp only [factsL, atL, refV, List.getElem?_cons_succ, List.getElem?_cons_zero, List.getD_cons_succ, List.getD_cons_zero, RelL.one, RelL.any, RelL.blk, RelL.law, RNw, RAt] at hd
          obtain ⟨rfl, rfl, -⟩ := hd
          refine held ?_
          simp only [putAll, Act.put, List.setIfInBounds_toArray, List.set_cons_succ, List.set_cons_zero]
          have hk3 := HK3.out
          go_wp2_with fail
          exact relyG_done _ rfl rfl (Ext.refl _) hI
         refine stepsG_cons ?_ ?_
         ·as_aux_lemma =>
          intro listed vs W' hl hI hd hs hn hu hz ho9
          refine hold ?_
          obtain ⟨x0, x1, x2, x3, x4, x5, x6, x7, x8, x9, x10, x11, x12, x13, x14, x15, x16, x17, x18, x19, x20, x21, x22, x23, x24, x25, x26, x27, x28, x29, rfl⟩ := lenlit30r hl; clear hl
          simp only [factsL, atL, refV, List.getElem?_cons_succ, List.getElem?_cons_zero, List.getD_cons_succ, List.getD_cons_zero, RelL.one, RelL.any, RelL.blk, RelL.law, RNw, RAt] at hd
          obtain ⟨rfl, -⟩ := hd
          refine held ?_
          simp only [putAll, Act.put, List.setIfInBounds_toArray, List.set_cons_succ, List.set_cons_zero]
          have hP9 := hP.ext hI
          obtain ⟨d0, d1⟩ := hP9.offAt HK3.out
          have dl := lt_of_cell d0
          simp only at dl
          rw [HOA.out.1, HOA.out.2.1, HOA.out.2.2] at d1
          go_wp2_with fail
          exact relyG_done _ rfl rfl (Ext.refl _) hI
         refine stepsG_cons ?_ ?_
         ·as_aux_lemma =>
          intro listed vs W' hl hI hd hs hn hu hz ho9
          refine hold ?_
          obtain ⟨x0, x1, x2, x3, x4, x5, x6, x7, x8, x9, x10, x11, x12, x13, x14, x15, x16, x17, x18, x19, x20, x21, x22, x23, x24, x25, x26, x27, x28, x29, rfl⟩ := lenlit30r hl; clear hl
          refine held ?_
          simp only [putAll, Act.put, List.setIfInBounds_toArray, List.set_cons_succ, List.set_cons_zero]
          go_wp2_with fail
          exact relyG_done _ rfl rfl (Ext.refl _) hI
         refine stepsG_cons ?_ ?_
         ·as_aux_lemma =>
          intro listed vs W' hl hI hd hs hn hu hz ho9
          refine hold ?_
          obtain ⟨x0, x1, x2, x3, x4, x5, x6, x7, x8, x9, x10, x11, x12, x13, x14, x15, x16, x17, x18, x19, x20, x21, x22, x23, x24, x25, x26, x27, x28, x29, rfl⟩ := lenlit30r hl; clear hl
          simp only [factsL, atL, refV, List.getElem?_cons_succ, List.getElem?_cons_zero, List.getD_cons_succ, List.getD_cons_zero, RelL.one, RelL.any, RelL.blk, RelL.law, RNw, RAt] at hd
          obtain ⟨rfl, -⟩ := hd
          refine held ?_
          simp only [putAll, Act.put, List.setIfInBounds_toArray, List.set_cons_succ, List.set_cons_zero]
          have hP9 := hP.ext hI
          have d0 := hP9.blk.c 0 _ rfl
          go_wp2_with fail
          exact relyG_done _ rfl rfl (Ext.refl _) hI
         refine stepsG_cons ?_ ?_
         ·as_aux_lemma =>
          intro listed vs W' hl hI hd hs hn hu hz ho9
          refine hold ?_
          obtain ⟨x0, x1, x2, x3, x4, x5, x6, x7, x8, x9, x10, x11, x12, x13, x14, x15, x16, x17, x18, x19, x20, x21, x22, x23, x24, x25, x26, x27, x28, x29, rfl⟩ := lenlit30r hl; clear hl
          refine held ?_
          simp only [putAll, Act.put, List.setIfInBounds_toArray, List.set_cons_succ, List.set_cons_zero]
          go_wp2_with fail
          exact relyG_done _ rfl rfl (Ext.refl _) hI
         refine stepsG_cons ?_ ?_
         ·as_aux_lemma =>
          intro listed vs W' hl hI hd hs hn hu hz ho9
          refine hold ?_
          obtain ⟨x0, x1, x2, x3, x4, x5, x6, x7, x8, x9, x10, x11, x12, x13, x14, x15, x16, x17, x18, x19, x20, x21, x22, x23, x24, x25, x26, x27, x28, x29, rfl⟩ := lenlit30r hl; clear hl
          simp only [factsL, atL, refV, List.getElem?_cons_succ, List.getElem?_cons_zero, List.getD_cons_succ, List.getD_cons_zero, RelL.one, RelL.any, RelL.blk, RelL.law, RNw, RAt] at hd
          obtain ⟨rfl, rfl, -⟩ := hd
          refine held ?_
          simp only [putAll, Act.put, List.setIfInBounds_toArray, List.set_cons_succ, List.set_cons_zero]
          have hk3 := HK3.out
          go_wp2_with fail
          exact relyG_done _ rfl rfl (Ext.refl _) hI
         refine stepsG_cons ?_ ?_
         ·as_aux_lemma =>
          intro listed vs W' hl hI hd hs hn hu hz ho9
          refine hold ?_
          obtain ⟨x0, x1, x2, x3, x4, x5, x6, x7, x8, x9, x10, x11, x12, x13, x14, x15, x16, x17, x18, x19, x20, x21, x22, x23, x24, x25, x26, x27, x28, x29, rfl⟩ := lenlit30r hl; clear hl
          simp only [factsL, atL, refV, List.getElem?_cons_succ, List.getElem?_cons_zero, List.getD_cons_succ, List.getD_cons_zero, RelL.one, RelL.any, RelL.blk, RelL.law, RNw, RAt] at hd
          obtain ⟨rfl, -⟩ := hd
          refine held ?_
          simp only [putAll, Act.put, List.setIfInBounds_toArray, List.set_cons_succ, List.set_cons_zero]
          go_wp2_with fail
          exact relyG_done _ rfl rfl (Ext.refl _) hI
         refine stepsG_cons ?_ ?_
         ·as_aux_lemma =>
          intro listed vs W' hl hI hd hs hn hu hz ho9
          refine hold ?_
          obtain ⟨x0, x1, x2, x3, x4, x5, x6, x7, x8, x9, x10, x11, x12, x13, x14, x15, x16, x17, x18, x19, x20, x21, x22, x23, x24, x25, x26, x27, x28, x29, rfl⟩ := lenlit30r hl; clear hl
          simp only [factsL, atL, refV, List.getElem?_cons_succ, List.getElem?_cons_zero, List.getD_cons_succ, List.getD_cons_zero, RelL.one, RelL.any, RelL.blk, RelL.law, RNw, RAt] at hd
          obtain ⟨rfl, -⟩ := hd
          refine held ?_
          simp only [putAll, Act.put, List.setIfInBounds_toArray, List.set_cons_succ, List.set_cons_zero]
          have hP9 := hP.ext hI
          obtain ⟨d0, d1⟩ := hP9.offAt HK3.out
          have dl := lt_of_cell d0
          simp only at dl
          rw [HOA.out.1, HOA.out.2.1, HOA.out.2.2] at d1
          go_wp2_with fail
          exact relyG_done _ rfl rfl (Ext.refl _) hI
         refine stepsG_cons ?_ ?_
         ·as_aux_lemma =>
          intro listed vs W' hl hI hd hs hn hu hz ho9
          refine hold ?_
          obtain ⟨x0, x1, x2, x3, x4, x5, x6, x7, x8, x9, x10, x11, x12, x13, x14, x15, x16, x17, x18, x19, x20, x21, x22, x23, x24, x25, x26, x27, x28, x29, rfl⟩ := lenlit30r hl; clear hl
          simp only [factsL, atL, refV, List.getElem?_cons_succ, List.getElem?_cons_zero, List.getD_cons_succ, List.getD_cons_zero, RelL.one, RelL.any, RelL.blk, RelL.law, RNw, RAt] at hd
          obtain ⟨rfl, -⟩ := hd
          refine held ?_
          simp only [putAll, Act.put, List.setIfInBounds_toArray, List.set_cons_succ, List.set_cons_zero]
          go_wp2_with fail
          exact relyG_done _ rfl rfl (Ext.refl _) hI
         refine stepsG_cons ?_ ?_
         ·as_aux_lemma =>
          intro listed vs W' hl hI hd hs hn hu hz ho9
          refine hold ?_
          obtain ⟨x0, x1, x2, x3, x4, x5, x6, x7, x8, x9, x10, x11, x12, x13, x14, x15, x16, x17, x18, x19, x20, x21, x22, x23, x24, x25, x26, x27, x28, x29, rfl⟩ := lenlit30r hl; clear hl
          refine held ?_
          simp only [putAll, Act.put, List.setIfInBounds_toArray, List.set_cons_succ, List.set_cons_zero]
          go_wp2_with fail
          exact relyG_done _ rfl rfl (Ext.refl _) hI
         refine stepsG_cons ?_ ?_
         ·as_aux_lemma =>
          intro listed vs W' hl hI hd hs hn hu hz ho9
          refine hold ?_
          obtain ⟨x0, x1, x2, x3, x4, x5, x6, x7, x8, x9, x10, x11, x12, x13, x14, x15, x16, x17, x18, x19, x20, x21, x22, x23, x24, x25, x26, x27, x28, x29, rfl⟩ := lenlit30r hl; clear hl
          refine held ?_
          simp only [putAll, Act.put, List.setIfInBounds_toArray, List.set_cons_succ, List.set_cons_zero]
          go_wp2_with fail
          exact relyG_done _ rfl rfl (Ext.refl _) hI
         refine stepsG_cons ?_ ?_
         ·as_aux_lemma =>
          intro listed vs W' hl hI hd hs hn hu hz ho9
          refine hold ?_
          obtain ⟨x0, x1, x2, x3, x4, x5, x6, x7, x8, x9, x10, x11, x12, x13, x14, x15, x16, x17, x18, x19, x20, x21, x22, x23, x24, x25, x26, x27, x28, x29, rfl⟩ := lenlit30r hl; clear hl
          simp only [factsL, atL, refV, List.getElem?_cons_succ, List.getElem?_cons_zero, List.getD_cons_succ, List.getD_cons_zero, RelL.one, RelL.any, RelL.blk, RelL.law, RNw, RAt] at hd
          obtain ⟨rfl, -⟩ := hd
          refine held ?_
          simp only [putAll, Act.put, List.setIfInBounds_toArray, List.set_cons_succ, List.set_cons_zero]
          have hwk := HWK.out
          go_wp2_with fail
          exact relyG_done _ rfl rfl (Ext.refl _) hI
         refine stepsG_cons ?_ ?_
         ·as_aux_lemma =>
          intro listed vs W' hl hI hd hs hn hu hz ho9
          refine hold ?_
          obtain ⟨x0, x1, x2, x3, x4, x5, x6, x7, x8, x9, x10, x11, x12, x13, x14, x15, x16, x17, x18, x19, x20, x21, x22, x23, x24, x25, x26, x27, x28, x29, rfl⟩ := lenlit30r hl; clear hl
          simp only [factsL, atL, refV, List.getElem?_cons_succ, List.getElem?_cons_zero, List.getD_cons_succ, List.getD_cons_zero, RelL.one, RelL.any, RelL.blk, RelL.law, RNw, RAt] at hd
          obtain ⟨rfl, rfl, -⟩ := hd
          refine held ?_
          simp only [putAll, Act.put, List.setIfInBounds_toArray, List.set_cons_succ, List.set_cons_zero]
          have hs5 := HS5.out
          go_wp2_with fail
          exact relyG_done _ rfl rfl (Ext.refl _) hI
         refine stepsG_cons ?_ ?_
         ·as_aux_lemma =>
          intro listed vs W' hl hI hd hs hn hu hz ho9
          refine hold ?_
          obtain ⟨x0, x1, x2, x3, x4, x5, x6, x7, x8, x9, x10, x11, x12, x13, x14, x15, x16, x17, x18, x19, x20, x21, x22, x23, x24, x25, x26, x27, x28, x29, rfl⟩ := lenlit30r hl; clear hl
          simp only [factsL, atL, refV, List.getElem?_cons_succ, List.getElem?_cons_zero, List.getD_cons_succ, List.getD_cons_zero, RelL.one, RelL.any, RelL.blk, RelL.law, RNw, RAt] at hd
          obtain ⟨rfl, -⟩ := hd
          refine held ?_
          simp only [putAll, Act.put, List.setIfInBounds_toArray, List.set_cons_succ, List.set_cons_zero]
          go_wp2_with (go_at_call 10; refine (secK_run HV5.out _).mono ?_; rintro e9 w9 ⟨rfl, rfl⟩)
          exact relyG_done _ rfl rfl (Ext.refl _) hI
         refine stepsG_cons ?_ ?_
         ·as_aux_lemma =>
          intro listed vs W' hl hI hd hs hn hu hz ho9
          refine hold ?_
          obtain ⟨x0, x1, x2, x3, x4, x5, x6, x7, x8, x9, x10, x11, x12, x13, x14, x15, x16, x17, x18, x19, x20, x21, x22, x23, x24, x25, x26, x27, x28, x29, rfl⟩ := lenlit30r hl; clear hl
          refine held ?_
          simp only [putAll, Act.put, List.setIfInBounds_toArray, List.set_cons_succ, List.set_cons_zero]
          go_wp2_with fail
          exact relyG_done _ rfl rfl (Ext.refl _) hI
         refine stepsG_cons ?_ ?_
         ·as_aux_lemma =>
          intro listed vs W' hl hI hd hs hn hu hz ho9
          refine hold ?_
          obtain ⟨x0, x1, x2, x3, x4, x5, x6, x7, x8, x9, x10, x11, x12, x13, x14, x15, x16, x17, x18, x19, x20, x21, x22, x23, x24, x25, x26, x27, x28, x29, rfl⟩ := lenlit30r hl; clear hl
          refine held ?_
          simp only [putAll, Act.put, List.setIfInBounds_toArray, List.set_cons_succ, List.set_cons_zero]
          go_wp2_with fail
          exact relyG_done _ rfl rfl (Ext.refl _) hI
         refine stepsG_cons ?_ ?_
         ·as_aux_lemma =>
          intro listed vs W' hl hI hd hs hn hu hz ho9
          refine hold ?_
          obtain ⟨x0, x1, x2, x3, x4, x5, x6, x7, x8, x9, x10, x11, x12, x13, x14, x15, x16, x17, x18, x19, x20, x21, x22, x23, x24, x25, x26, x27, x28, x29, rfl⟩ := lenlit30r hl; clear hl
          simp only [factsL, atL, refV, List.getElem?_cons_succ, List.getElem?_cons_zero, List.getD_cons_succ, List.getD_cons_zero, RelL.one, RelL.any, RelL.blk, RelL.law, RNw, RAt] at hd
          obtain ⟨rfl, -⟩ := hd
          refine held ?_
          simp only [putAll, Act.put, List.setIfInBounds_toArray, List.set_cons_succ, List.set_cons_zero]
          go_wp2_with fail
          exact relyG_done _ rfl rfl (Ext.refl _) hI
         refine stepsG_cons ?_ ?_
         ·as_aux_lemma =>
          intro listed vs W' hl hI hd hs hn hu hz ho9
          refine hold ?_
          obtain ⟨x0, x1, x2, x3, x4, x5, x6, x7, x8, x9, x10, x11, x12, x13, x14, x15, x16, x17, x18, x19, x20, x21, x22, x23, x24, x25, x26, x27, x28, x29, rfl⟩ := lenlit30r hl; clear hl
          simp only [factsL, atL, refV, List.getElem?_cons_succ, List.getElem?_cons_zero, List.getD_cons_succ, List.getD_cons_zero, RelL.one, RelL.any, RelL.blk, RelL.law, RNw, RAt] at hd
          obtain ⟨rfl, -⟩ := hd
          refine held ?_
          simp only [putAll, Act.put, List.setIfInBounds_toArray, List.set_cons_succ, List.set_cons_zero]
          have hw6 := HW6.out
          go_wp2_with fail
          exact relyG_done _ rfl rfl (Ext.refl _) hI
         refine stepsG_cons ?_ ?_
         ·as_aux_lemma =>
          intro listed vs W' hl hI hd hs hn hu hz ho9
          refine hold ?_
          obtain ⟨x0, x1, x2, x3, x4, x5, x6, x7, x8, x9, x10, x11, x12, x13, x14, x15, x16, x17, x18, x19, x20, x21, x22, x23, x24, x25, x26, x27, x28, x29, rfl⟩ := lenlit30r hl; clear hl
          simp only [factsL, atL, refV, List.getElem?_cons_succ, List.getElem?_cons_zero, List.getD_cons_succ, List.getD_cons_zero, RelL.one, RelL.any, RelL.blk, RelL.law, RNw, RAt] at hd
          obtain ⟨rfl, rfl, -⟩ := hd
          refine held ?_
          simp only [putAll, Act.put, List.setIfInBounds_toArray, List.set_cons_succ, List.set_cons_zero]
          have hs7 := HS7.out
          go_wp2_with fail
          exact relyG_done _ rfl rfl (Ext.refl _) hI
         refine stepsG_cons ?_ ?_
         ·as_aux_lemma =>
          intro listed vs W' hl hI hd hs hn hu hz ho9
          refine hold ?_
          obtain ⟨x0, x1, x2, x3, x4, x5, x6, x7, x8, x9, x10, x11, x12, x13, x14, x15, x16, x17, x18, x19, x20, x21, x22, x23, x24, x25, x26, x27, x28, x29, rfl⟩ := lenlit30r hl; clear hl
          simp only [factsL, atL, refV, List.getElem?_cons_succ, List.getElem?_cons_zero, List.getD_cons_succ, List.getD_cons_zero, RelL.one, RelL.any, RelL.blk, RelL.law, RNw, RAt] at hd
          obtain ⟨rfl, -⟩ := hd
          refine held ?_
          simp only [putAll, Act.put, List.setIfInBounds_toArray, List.set_cons_succ, List.set_cons_zero]
          go_wp2_with (go_at_call 10; refine (secK_run HV7.out _).mono ?_; rintro e9 w9 ⟨rfl, rfl⟩)
          exact relyG_done _ rfl rfl (Ext.refl _) hI
         refine stepsG_cons ?_ ?_
         ·as_aux_lemma =>
          intro listed vs W' hl hI hd hs hn hu hz ho9
          refine hold ?_
          obtain ⟨x0, x1, x2, x3, x4, x5, x6, x7, x8, x9, x10, x11, x12, x13, x14, x15, x16, x17, x18, x19, x20, x21, x22, x23, x24, x25, x26, x27, x28, x29, rfl⟩ := lenlit30r hl; clear hl
          simp only [factsL, atL, refV, List.getElem?_cons_succ, List.getElem?_cons_zero, List.getD_cons_succ, List.getD_cons_zero, RelL.one, RelL.any, RelL.blk, RelL.law, RNw, RAt] at hd
          obtain ⟨rfl, rfl, rfl, rfl, -⟩ := hd
          refine held ?_
          simp only [putAll, Act.put, List.setIfInBounds_toArray, List.set_cons_succ, List.set_cons_zero]
          go_wp2_with (go_at_call 11; refine (HSG.out _ hI).mono ?_; rintro e9 w9 ⟨rfl, hx9⟩)
          exact relyG_done _ rfl rfl hx9 (hI.trans hx9)
         refine stepsG_cons ?_ ?_
         ·as_aux_lemma =>
          intro listed vs W' hl hI hd hs hn hu hz ho9
          refine hold ?_
          obtain ⟨x0, x1, x2, x3, x4, x5, x6, x7, x8, x9, x10, x11, x12, x13, x14, x15, x16, x17, x18, x19, x20, x21, x22, x23, x24, x25, x26, x27, x28, x29, rfl⟩ := lenlit30r hl; clear hl
          simp only [factsL, atL, refV, List.getElem?_cons_succ, List.getElem?_cons_zero, List.getD_cons_succ, List.getD_cons_zero, RelL.one, RelL.any, RelL.blk, RelL.law, RNw, RAt] at hd
          obtain ⟨rfl, -⟩ := hd
          refine held ?_
          simp only [putAll, Act.put, List.setIfInBounds_toArray, List.set_cons_succ, List.set_cons_zero]
          go_wp2_with fail
          exact relyG_done _ rfl rfl (Ext.refl _) hI
         refine stepsG_cons ?_ ?_
         ·as_aux_lemma =>
          intro listed vs W' hl hI hd hs hn hu hz ho9
          refine hold ?_
          obtain ⟨x0, x1, x2, x3, x4, x5, x6, x7, x8, x9, x10, x11, x12, x13, x14, x15, x16, x17, x18, x19, x20, x21, x22, x23, x24, x25, x26, x27, x28, x29, rfl⟩ := lenlit30r hl; clear hl
          simp only [factsL, atL, refV, List.getElem?_cons_succ, List.getElem?_cons_zero, List.getD_cons_succ, List.getD_cons_zero, RelL.one, RelL.any, RelL.blk, RelL.law, RNw, RAt] at hd
          obtain ⟨rfl, -⟩ := hd
          refine held ?_
          simp only [putAll, Act.put, List.setIfInBounds_toArray, List.set_cons_succ, List.set_cons_zero]
          go_wp2_with fail
          exact relyG_done _ rfl rfl (Ext.refl _) hI
         refine stepsG_cons ?_ ?_
         ·as_aux_lemma =>
          intro listed vs W' hl hI hd hs hn hu hz ho9
          refine hold ?_
          obtain ⟨x0, x1, x2, x3, x4, x5, x6, x7, x8, x9, x10, x11, x12, x13, x14, x15, x16, x17, x18, x19, x20, x21, x22, x23, x24, x25, x26, x27, x28, x29, rfl⟩ := lenlit30r hl; clear hl
          simp only [factsL, atL, refV, List.getElem?_cons_succ, List.getElem?_cons_zero, List.getD_cons_succ, List.getD_cons_zero, RelL.one, RelL.any, RelL.blk, RelL.law, RNw, RAt] at hd
          obtain ⟨rfl, -⟩ := hd
          refine held ?_
          simp only [putAll, Act.put, List.setIfInBounds_toArray, List.set_cons_succ, List.set_cons_zero]
          go_wp2_with fail
          exact relyG_done _ rfl rfl (Ext.refl _) hI
         refine stepsG_cons ?_ ?_
         ·as_aux_lemma =>
          intro listed vs W' hl hI hd hs hn hu hz ho9
          refine hold ?_
          obtain ⟨x0, x1, x2, x3, x4, x5, x6, x7, x8, x9, x10, x11, x12, x13, x14, x15, x16, x17, x18, x19, x20, x21, x22, x23, x24, x25, x26, x27, x28, x29, rfl⟩ := lenlit30r hl; clear hl
          refine held ?_
          simp only [putAll, Act.put, List.setIfInBounds_toArray, List.set_cons_succ, List.set_cons_zero]
          go_wp2_with fail
          exact relyG_done _ rfl ⟨_, rfl, hI.sz, Bk.new W' _ _⟩ ((Ext.refl _).alloc _) (hI.alloc _)
         refine stepsG_cons ?_ ?_
         ·as_aux_lemma =>
          intro listed vs W' hl hI hd hs hn hu hz ho9
          refine hold ?_
          obtain ⟨x0, x1, x2, x3, x4, x5, x6, x7, x8, x9, x10, x11, x12, x13, x14, x15, x16, x17, x18, x19, x20, x21, x22, x23, x24, x25, x26, x27, x28, x29, rfl⟩ := lenlit30r hl; clear hl
          simp only [factsL, atL, refV, List.getElem?_cons_succ, List.getElem?_cons_zero, List.getD_cons_succ, List.getD_cons_zero, RelL.one, RelL.any, RelL.blk, RelL.law, RNw, RAt] at hd
          obtain ⟨rfl, ⟨b27, rfl, hge27, hb27⟩, -⟩ := hd
          refine held ?_
          simp only [putAll, Act.put, List.setIfInBounds_toArray, List.set_cons_succ, List.set_cons_zero]
          have s0 := hb27.c 0 _ rfl
          have s1 := hb27.c 1 _ rfl
          have s2 := hb27.c 2 _ rfl
          have s3 := hb27.c 3 _ rfl
          have s4 := hb27.c 4 _ rfl
          have fz := hb27.free
          go_wp2_with fail
          exact relyG_store undef rfl ⟨b27, rfl, hge27, hb27.set5 _ _ _ _ _⟩ (by simp [World.setCell]) ⟨(fun _ _ _ h9 => h9), (fun _ _ _ h9 => h9), (fun _ _ _ h9 => h9), (fun _ _ _ h9 => h9), (fun _ _ _ h9 => h9), (fun _ _ _ h9 => h9), (fun _ _ _ h9 => h9), (fun _ _ _ h9 => h9), (fun _ _ _ h9 => h9), (fun _ _ _ h9 => h9), (fun _ _ _ h9 => h9), (fun _ _ _ h9 => h9), (fun _ _ _ h9 => h9), (fun _ _ _ h9 => h9), (fun _ _ _ h9 => h9), (fun _ _ _ h9 => h9), (fun _ _ _ h9 => h9), (fun _ _ _ h9 => h9), (fun _ _ _ h9 => h9), (fun _ _ _ h9 => h9), (fun _ _ _ h9 => h9), (fun _ _ _ h9 => h9), (fun _ _ _ h9 => h9), (fun _ _ _ h9 => h9), (fun _ _ _ h9 => h9), (fun _ _ _ h9 => h9), (fun _ _ _ h9 => h9), (fun h9 => by simp at h9), (fun _ _ h9 _ => absurd rfl h9), (fun _ hl9 _ _ => absurd (by decide) (hu 29 hl9)), trivial⟩ (hI.set5 hge27 _ _ _ _ _)
         refine stepsG_cons ?_ ?_
         ·as_aux_lemma =>
          intro listed vs W' hl hI hd hs hn hu hz ho9
          refine hold ?_
          obtain ⟨x0, x1, x2, x3, x4, x5, x6, x7, x8, x9, x10, x11, x12, x13, x14, x15, x16, x17, x18, x19, x20, x21, x22, x23, x24, x25, x26, x27, x28, x29, rfl⟩ := lenlit30r hl; clear hl
          simp only [factsL, atL, refV, List.getElem?_cons_succ, List.getElem?_cons_zero, List.getD_cons_succ, List.getD_cons_zero, RelL.one, RelL.any, RelL.blk, RelL.law, RNw, RAt] at hd
          obtain ⟨rfl, -⟩ := hd
          refine held ?_
          simp only [putAll, Act.put, List.setIfInBounds_toArray, List.set_cons_succ, List.set_cons_zero]
          go_wp2_with fail
          exact relyG_done _ rfl rfl (Ext.refl _) hI
         exact trivial
        ·intro listed vs W' hl hall hI hd hn
         obtain ⟨x0, x1, x2, x3, x4, x5, x6, x7, x8, x9, x10, x11, x12, x13, x14, x15, x16, x17, x18, x19, x20, x21, x22, x23, x24, x25, x26, x27, x28, x29, rfl⟩ := lenlit30r hl; clear hl
         simp only [List.length_cons, List.length_nil, factsL, atL, refV, List.getElem?_cons_succ, List.getElem?_cons_zero, List.getD_cons_succ, List.getD_cons_zero, RelL.one, RelL.any, RelL.blk, RelL.law, RNw, RAt] at hd
         obtain ⟨⟨b27, rfl, hge27, hb27⟩, rfl, -⟩ := hd
         simp only [putAll, Act.put, List.setIfInBounds_toArray, List.set_cons_succ, List.set_cons_zero]
         clear HSG HWK HS5 HV5 HW6 HS7 HV7
         replace hP := hP.ext hI
         replace HX := Lib.hid (HX.out.trans hI)
         have hHB := hb27
         clear hI hn hall hge27 hb27
         go_upto_region 19 with fail
         have q0 := hHB.c 0 _ rfl
         have q1 := hHB.c 1 _ rfl
         have q2 := hHB.c 2 _ rfl
         have q3 := hHB.c 3 _ rfl
         have q4 := hHB.c 4 _ rfl
         have p2 := hP.blk.c 2 _ rfl
         have hxo : Ext W' (W'.alloc (.cells #[.int .i64 g.o, .int .i64 g.s, .int .u64 g.r, .int .i64 g.C, .int .i64 g.S] RH)) := (Ext.refl W').alloc _
         have hP2 := hP.ext hxo
         have hbs : tb ≤ (W'.alloc (.cells #[.int .i64 g.o, .int .i64 g.s, .int .u64 g.r, .int .i64 g.C, .int .i64 g.S] RH)).heap.size := by
          have h9 := hP2.blk.lt
          have h8 := HB6.out.1
          omega
         have hNH := (Bk.new W' RH #[.int .i64 g.o, .int .i64 g.s, .int .u64 g.r, .int .i64 g.C, .int .i64 g.S]).row (cs := [.int .i64 g.o, .int .i64 g.s, .int .u64 g.r, .int .i64 g.C, .int .i64 g.S])
         have hh12 := HH12.out
         go_wp2_with (at_builtin; refine appC el_hd rfl _ _ rfl _ tb _ _ _ _ rfl hP2.hed.2 W'.heap.size 0 1 1 [.int .i64 g.o, .int .i64 g.s, .int .u64 g.r, .int .i64 g.C, .int .i64 g.S] rfl rfl hNH (by intro v hv; simp only [List.mem_cons, List.not_mem_nil, or_false] at hv; rcases hv with rfl | rfl | rfl | rfl | rfl <;> rfl) (by omega) hbs (by unfold maxLen; omega) (by omega) ?_; intro g5 c5 w5 h5 hB5 hG5 _; refine hold ?_)
         have hcs := own_cases hP2.hed hG5
         have ho5 : OwR RH tb w5 (some ⟨g5, 0, none⟩) (hn + 1) c5 (s.hs ++ [g]) := ⟨by rw [List.length_append, hP2.hed.1]; rfl, by rw [List.flatMap_append]; exact h5⟩
         have B7 := hP2.blk.growOwn hcs (by decide)
         have hP6 := hP2.head hG5 ho5 T
         have hX6 := (Below.trans (HX.out.trans hxo) (hB5.mono (by rw [HTB.out]; exact Nat.le_refl _)) : Ext V w5).setCell (p := ⟨b6, 2, none⟩) (by rw [HTB.out]; exact HB6.out.1) (.slice (some ⟨g5, 0, none⟩) (hn + 1) c5)
         clear q0 q1 q2 q3 q4 p2 hxo hP2 hbs hNH h5 hB5 hG5 hcs ho5 hHB
         have p2 := B7.c 2 _ rfl
         have pf := B7.free
         refine held ?_
         go_wp2_with fail
         exact ⟨⟨i + 1, oc, some ⟨g5, 0, none⟩, hn + 1, c5, ka, kc, os, ts, by omega, by rw [HR.out], by go_num, by rw [HR.out]; exact hP6, Lib.hid hX6⟩, by simp only [intOf]; omega⟩
     ·as_aux_lemma =>
      have m1 : ((Xd : Int) % 4 == 1) = false := by simp; omega
      have HDO := Lib.hid hdo
      clear hdo
      go_upto_region 20 with fail
      clear e0 e1 m1
      have e6 := HB.c 6 _ rfl
      have e4 := HB.c 4 _ rfl
      have e5 := HB.c 5 _ rfl
      have hw8 : IntKind.u64.wrap ((Xc : Nat) : Int) = (Xc : Int) := by rw [IntKind.wrap_u64]; omega
      obtain ⟨tlo, thi⟩ := HTR.out
      go_upto_region 21 with fail
      clear e4 e5 e6 hw8 tlo thi
      obtain ⟨M0, hM0⟩ : ∃ M, max 0 (T - (Xl : Int)) = M := ⟨_, rfl⟩
      have HM0 := Lib.hid hM0
      rw [hM0]
      clear hM0
      have HEB := Bk.new U0 RE #[.int .u64 (Xc : Nat), .int .i64 M0, .int .i64 (T + (Xr : Int))]
      have HXE : Hid (Ext U0 (U0.alloc (.cells #[.int .u64 (Xc : Nat), .int .i64 M0, .int .i64 (T + (Xr : Int))] RE))) := Lib.hid ((Ext.refl U0).alloc _)
      generalize U0.alloc (.cells #[.int .u64 (Xc : Nat), .int .i64 M0, .int .i64 (T + (Xr : Int))] RE) = U1 at *
      obtain ⟨eb, heb⟩ : ∃ b, U0.heap.size = b := ⟨_, rfl⟩
      have HEG : Hid (U0.heap.size ≤ eb) := Lib.hid (by omega)
      rw [heb] at HEB ⊢
      clear heb
      have hP9 := hP.ext HXE.out
      have p0 := hP9.blk.c 0 _ rfl
      have p2 := hP9.blk.c 2 _ rfl
      obtain ⟨p3, p4⟩ := hP9.offAt HK3.out
      rw [HOA.out.1, HOA.out.2.1, HOA.out.2.2] at p4
      have k3 := HK3.out
      go_upto_region 22 with fail
      clear p0 p2 p3 p4 k3 hP9
      go_upto_if 141 with fail
      go_cut [15] (fun s15 wx => s15 = .int .i64 (ln : Nat) ∧ ∃ M1 : Int, Hid (M1 = loN (s.lg k) T ⟨Xd, Xw, Xh, Xt, Xl, Xr, Xc⟩) ∧ Bk wx eb RE #[.int .u64 (Xc : Nat), .int .i64 M1, .int .i64 (T + (Xr : Int))] ∧ Hid (Ext U0 wx))
      case first => as_aux_lemma =>
       by_cases hz : ln = 0
       ·have HLO : Hid (M0 = loN (s.lg k) T ⟨Xd, Xw, Xh, Xt, Xl, Xr, Xc⟩) := Lib.hid (by unfold loN; rw [if_pos (by rw [HOA.out.2.1]; exact hz)]; exact HM0.out.symm)
        have z1 : ¬ ((0 : Int) < (ln : Int)) := by omega
        have z2 : decide ((0 : Int) < (ln : Int)) = false := decide_eq_false z1
        have z3 : ¬ (0 < ln) := by omega
        have z4 : decide (0 < ln) = false := decide_eq_false z3
        clear hz
        go_wp2_with fail
        go_meet
        exact ⟨rfl, M0, HLO, HEB, HXE⟩
       ·obtain ⟨x2, o2, hoa, hc2⟩ := HLR.out.at (by omega)
        have hr := rangeAt_ext (hc2 (ln - 1) (by omega)) HXE.out
        rw [sz_en] at hr
        have hln := HLN.out
        have HLO : Hid (max M0 (nthR (s.lg k) (ln - 1)).lo = loN (s.lg k) T ⟨Xd, Xw, Xh, Xt, Xl, Xr, Xc⟩) := Lib.hid (by unfold loN lastE; rw [if_neg (by rw [HOA.out.2.1]; exact hz), HOA.out.2.1]; rw [← HM0.out])
        generalize nthR (s.lg k) (ln - 1) = y at *
        obtain ⟨_, e1, _⟩ := cells_en hr
        clear hr hc2
        rw [hoa] at HOA
        have hwr : IntKind.i64.wrap ((ln : Int) - 1) = ((ln - 1 : Nat) : Int) := by rw [IntKind.wrap_i64]; omega
        have z1 : (0 : Int) < (ln : Int) := by omega
        have z2 : decide ((0 : Int) < (ln : Int)) = true := decide_eq_true z1
        have z3 : 0 < ln := by omega
        have z4 : decide (0 < ln) = true := decide_eq_true z3
        have z5 : ln - 1 < ln := by omega
        have hP9 := hP.ext HXE.out
        have p0 := hP9.blk.c 0 _ rfl
        have p2 := hP9.blk.c 2 _ rfl
        obtain ⟨p3, p4⟩ := hP9.offAt HK3.out
        rw [HOA.out.1, HOA.out.2.1, HOA.out.2.2] at p4
        have k3 := HK3.out
        have q1 := HEB.c 1 _ rfl
        have hl0 := hP9.blk.lt
        have hl1 := lt_of_cell p3
        have hl2 := lt_of_cell e1
        have hl3 := HEB.lt
        simp only at hl1 hl2
        go_upto_region 23 with fail
        have hg := @grow_cell
        refine region_tail 16 (by kernel_rfl) (by kernel_rfl) ?_
        simp only [List.take_succ_cons, List.take_zero, List.drop_succ_cons, List.drop_zero]
        repeat (go_big_quiet_step (fail))
        refine wpQuiet_nil ?_
        intro W hE
        clear p0 p2 p3 p4 k3 q1 hl0 hl1 hl2 hl3 hg e1 hP9
        have HE2 := HEB.ext hE
        have q1 := HE2.c 1 _ rfl
        have qf := HE2.free
        go_wp2_with fail
        go_meet
        exact ⟨rfl, _, HLO, HE2.set 1 _, Lib.hid ((HXE.out.trans hE).setCell (p := ⟨eb, 1, none⟩) HEG.out _)⟩
      case rest =>
       obtain ⟨rfl, M1, HM1, HEB, HXE⟩ := hcut
       clear HM0
       by_cases hC : Xd % 4 = 2 ∧ hn = 0
       ·have HCC := Lib.hid hC
        have HR : Hid (runP key (lgL l) (i + 1) = ⟨T, s.lg, s.tm, s.hs, s.st⟩) := Lib.hid (by rw [HST.out, step_none (x := ⟨Xd, Xw, Xh, Xt, Xl, Xr, Xc⟩) HCC.out.1 (by rw [HHN.out]; exact HCC.out.2), ← HT9.out])
        have hPR : PRep tb wc b6 key (runP key (lgL l) (i + 1)) (some ⟨ob, 0, none⟩) oc (some ⟨tb, 0, none⟩) 3 ha hn hc ka kc os ts := by rw [HR.out]; exact (hP.ext HXE.out).time T
        have hP9 := hP.ext HXE.out
        have HB9 := HB.ext HXE.out
        have p2 := hP9.blk.c 2 _ rfl
        have e0 := HB9.c 0 _ rfl
        have m3 : ((Xd : Int) % 4 == 2) = true := by simp; omega
        have m4 : ((Xd : Int) % 4) = 2 := by omega
        have z2 : ((hn : Int) == 0) = true := by simp; omega
        have HX9 := Lib.hid (HX.out.trans HXE.out)
        clear hC
        go_wp2_with fail
        exact ⟨⟨i + 1, oc, ha, hn, hc, ka, kc, os, ts, by omega, by rw [HR.out], by go_num, hPR, HX9⟩, by simp only [intOf]; omega⟩
       ·have HCC : Hid (Xd % 4 = 2 → hn ≠ 0) := Lib.hid (fun h1 h2 => hC ⟨h1, h2⟩)
        clear hC
        have HCK : Hid (Xd % 4 = 2 → s.hs.length ≠ 0) := Lib.hid (fun h1 => by rw [HHN.out]; exact HCC.out h1)
        have HR : Hid (runP key (lgL l) (i + 1) = ⟨T, updN s.lg k (s.lg k ++ [newE s ⟨Xd, Xw, Xh, Xt, Xl, Xr, Xc⟩]), updN s.tm k (s.tm k ++ [T]), s.hs, s.st⟩) := Lib.hid (by
         rw [HST.out, step_log (x := ⟨Xd, Xw, Xh, Xt, Xl, Xr, Xc⟩) HDO.out HCK.out]
         simp only [HKE.out, HT9.out])
        have HNE := Lib.hid (newE_ok HOK.out (by omega) HXO.out HDO.out HCK.out)
        have HED : Hid ((newE s ⟨Xd, Xw, Xh, Xt, Xl, Xr, Xc⟩).d = if Xd % 4 = 2 then digH (nthR s.hs (Xh % hn)) else (Xc : Int)) := Lib.hid (by unfold newE; simp only; rw [HHN.out])
        have HEL : Hid ((newE s ⟨Xd, Xw, Xh, Xt, Xl, Xr, Xc⟩).lo = M1) := Lib.hid (by rw [HM1.out]; unfold newE; simp only; rw [HKE.out, HT9.out])
        have HEH : Hid ((newE s ⟨Xd, Xw, Xh, Xt, Xl, Xr, Xc⟩).hi = T + (Xr : Int)) := Lib.hid (by unfold newE; simp only; rw [HT9.out])
        generalize newE s ⟨Xd, Xw, Xh, Xt, Xl, Xr, Xc⟩ = e at *
        rw [← HEL.out, ← HEH.out] at HEB
        simp only [HKE.out, HOA.out.2.1] at HNE
        clear HEL HEH HM1
        have HB9 := HB.ext HXE.out
        have e0 := HB9.c 0 _ rfl
        go_upto_if 163 with fail
        go_cut [14] (fun s14 wx => s14 = .pointer (some ⟨eb, 0, none⟩) ∧ Bk wx eb RE #[.int .u64 e.d, .int .i64 e.lo, .int .i64 e.hi] ∧ Hid (Ext U0 wx))
        case first => as_aux_lemma =>
         by_cases hd2 : Xd % 4 = 2
         ·have m3 : ((Xd : Int) % 4 == 2) = true := by simp; omega
          have m4 : ((Xd : Int) % 4) = 2 := by omega
          have hn0 := HCC.out hd2
          have z2 : ((hn : Int) == 0) = false := by simp; omega
          have z6 : ¬ ((hn : Int) = 0) := by omega
          have HHP : Hid (0 < hn) := Lib.hid (by omega)
          rw [if_pos hd2] at HED
          clear hd2 hn0
          have hP9 := hP.ext HXE.out
          have p2 := hP9.blk.c 2 _ rfl
          go_upto_region 26 with fail
          clear m3 m4 e0
          obtain ⟨x2, o2, hha, hc2⟩ := (hP9.hRw HOK.out (by omega)).at HHP.out
          have hml : Xh % hn < hn := Nat.mod_lt _ HHP.out
          have hr := hc2 (Xh % hn) hml
          rw [sz_hd] at hr
          have hok := (hP9.hRw HOK.out (by omega)).wfAt hml
          have HDG := Lib.hid (fun (d : Nat) (os : Array Obj) => cdigest_any (nthR s.hs (Xh % hn)) hok (grow (redrawn wc d) os) ((HT.out.ext ((HW.out.trans HX.out).trans HXE.out)).ext (ext_grow _ _ _)))
          generalize nthR s.hs (Xh % hn) = q at *
          obtain ⟨d0, d1, d2, d3, d4⟩ := cells_hd hr
          unfold hdV at HDG
          rw [hha] at p2
          have HB8 := HB.ext HXE.out
          have e2 := HB8.c 2 _ rfl
          have q0 := HEB.c 0 _ rfl
          have hmi : ((Xh : Int) % (hn : Int)) = ((Xh % hn : Nat) : Int) := by omega
          obtain ⟨mi, hmi2⟩ : ∃ x, Xh % hn = x := ⟨_, rfl⟩
          rw [hmi2] at d0 d1 d2 d3 d4 hml hmi
          clear hr hc2 hok hmi2
          have hl0 := hP9.blk.lt
          have hl1 := lt_of_cell d0
          have hl2 := HB8.lt
          have hl3 := HEB.lt
          simp only at hl1
          have hh12 := HH12.out
          have hg := @grow_cell
          refine region_tail 12 (by kernel_rfl) (by kernel_rfl) ?_
          simp only [List.take_succ_cons, List.take_zero, List.drop_succ_cons, List.drop_zero]
          repeat (go_big_quiet_step ((go_at_call 49; exact Calls.regrown_of (HDG.out _ _))))
          refine wpQuiet_nil ?_
          intro W hE
          clear p2 e2 q0 d0 d1 d2 d3 d4 hl0 hl1 hl2 hl3 hg hh12 hmi hml z2 z6 HDG
          rw [← HED.out]
          have HE2 := HEB.ext hE
          have q0 := HE2.c 0 _ rfl
          have qf := HE2.free
          go_wp2_with fail
          go_meet
          exact ⟨rfl, HE2.set 0 _, Lib.hid ((HXE.out.trans hE).setCell (p := ⟨eb, 0, none⟩) HEG.out _)⟩
         ·have m3 : ((Xd : Int) % 4 == 2) = false := by simp; omega
          have m4 : ¬ (((Xd : Int) % 4) = 2) := by omega
          rw [if_neg hd2] at HED
          clear hd2
          rw [← HED.out] at HEB
          go_wp2_with fail
          go_meet
          exact ⟨rfl, HEB, HXE⟩
        case rest =>
         obtain ⟨rfl, HEB, HXE⟩ := hcut
         clear e0 HB9
         replace hP := hP.ext HXE.out
         replace HX := Lib.hid (HX.out.trans HXE.out)
         replace HLR := Lib.hid (HLR.out.ext HXE.out)
         clear HXE HEG HB
         generalize wc = UD at *
         have HUD : Hid (tb ≤ UD.heap.size) := Lib.hid (by have h9 := HX.out.sz; have h8 := HTB.out; omega)
         have HTU := Lib.hid (HT.out.ext (HW.out.trans HX.out))
         go_upto_region 27 with fail
         have HAP := Lib.hid (fun (W : World) (hx : Ext UD W) => oappend_yes (HLR.out.ext hx) (HOK.out.off (by omega) HK3.out) HNE.out.1 HNE.out.2.1 (by have := HLN.out; omega) HNE.out.2.2)
         unfold enV at HAP
         refine region_relyG (fun _ W => Ext UD W) [some 182, some 183, some 184, some 185, some 186, some 187, some 188, some 181, some 189, some 190, some 16, none, some 17] [[], [0], [], [0, 1, 2], [0, 1, 2, 3], [], [0, 1, 2, 3, 4, 5], [0, 1, 2, 3, 4, 5, 6], [0, 1, 2, 3, 4, 5, 6, 7], [0, 1, 2, 3, 4, 5, 6, 7], [], [0, 1, 2, 3, 4, 5, 6, 7, 8, 10], [0, 1, 2, 3, 4, 5, 6, 7, 8, 9, 10, 11]] [[], [0], [], [1, 2], [3], [], [4, 5], [6], [7], [7], [], [8, 10], [9]] [none, none, none, none, none, none, none, none, none, none, none, some 10, none] [false, false, false, false, false, false, false, false, false, false, false, false, false] [[], [], [], [], [], [], [], [], [], [], [], [6, 8, 10], []] [11, 12] [.one ((.pointer (some ⟨b6, 0, none⟩))), .one ((.slice (some ⟨ob, 0, none⟩) 3 oc)), .one ((.int .i64 (k : Nat))), .one ((.pointer (some ⟨ob, k * 2, none⟩))), .one ((.agg #[.int .i64 ((k : Int) + 1), .slice OA ln oc3])), .one ((.agg #[.int .u64 e.d, .int .i64 e.lo, .int .i64 e.hi])), ROa UD.heap.size ((k : Int) + 1) (ln + 1) (s.lg k ++ [e]), ROa UD.heap.size ((k : Int) + 1) (ln + 1) (s.lg k ++ [e]), ROb UD.heap.size ((k : Int) + 1) (ln + 1) (s.lg k ++ [e]), .one ((.int .i64 0)), RNw UD.heap.size RO #[.int .i64 0, .slice none 0 0], RAo 10 UD.heap.size ((k : Int) + 1) (ln + 1) (s.lg k ++ [e]), .one ((.int .i64 0))] (by kernel_rfl) (by kernel_rfl) (by kernel_rfl) rfl (Ext.refl UD).drew ?_ ?_
         ·refine stepsG_cons ?_ ?_
          ·as_aux_lemma =>
           intro listed vs W' hl hI hd hs hn hu hz ho9
           refine hold ?_
           obtain ⟨x0, x1, x2, x3, x4, x5, x6, x7, x8, x9, x10, x11, x12, rfl⟩ := lenlit13r hl; clear hl
           refine held ?_
           simp only [putAll, Act.put, List.setIfInBounds_toArray, List.set_cons_succ, List.set_cons_zero]
           go_wp2_with fail
           exact relyG_done _ rfl rfl (Ext.refl _) hI
          refine stepsG_cons ?_ ?_
          ·as_aux_lemma =>
           intro listed vs W' hl hI hd hs hn hu hz ho9
           refine hold ?_
           obtain ⟨x0, x1, x2, x3, x4, x5, x6, x7, x8, x9, x10, x11, x12, rfl⟩ := lenlit13r hl; clear hl
           simp only [factsL, atL, refV, List.getElem?_cons_succ, List.getElem?_cons_zero, List.getD_cons_succ, List.getD_cons_zero, RelL.one, RelL.any, RelL.blk, RelL.law, ROa, ROb, RAo, RNw] at hd
           obtain ⟨rfl, -⟩ := hd
           refine held ?_
           simp only [putAll, Act.put, List.setIfInBounds_toArray, List.set_cons_succ, List.set_cons_zero]
           have hP9 := hP.ext hI
           have d0 := hP9.blk.c 0 _ rfl
           go_wp2_with fail
           exact relyG_done _ rfl rfl (Ext.refl _) hI
          refine stepsG_cons ?_ ?_
          ·as_aux_lemma =>
           intro listed vs W' hl hI hd hs hn hu hz ho9
           refine hold ?_
           obtain ⟨x0, x1, x2, x3, x4, x5, x6, x7, x8, x9, x10, x11, x12, rfl⟩ := lenlit13r hl; clear hl
           refine held ?_
           simp only [putAll, Act.put, List.setIfInBounds_toArray, List.set_cons_succ, List.set_cons_zero]
           go_wp2_with fail
           exact relyG_done _ rfl rfl (Ext.refl _) hI
          refine stepsG_cons ?_ ?_
          ·as_aux_lemma =>
           intro listed vs W' hl hI hd hs hn hu hz ho9
           refine hold ?_
           obtain ⟨x0, x1, x2, x3, x4, x5, x6, x7, x8, x9, x10, x11, x12, rfl⟩ := lenlit13r hl; clear hl
           simp only [factsL, atL, refV, List.getElem?_cons_succ, List.getElem?_cons_zero, List.getD_cons_succ, List.getD_cons_zero, RelL.one, RelL.any, RelL.blk, RelL.law, ROa, ROb, RAo, RNw] at hd
           obtain ⟨rfl, rfl, -⟩ := hd
           refine held ?_
           simp only [putAll, Act.put, List.setIfInBounds_toArray, List.set_cons_succ, List.set_cons_zero]
           have hk3 := HK3.out
           go_wp2_with fail
           exact relyG_done _ rfl rfl (Ext.refl _) hI
          refine stepsG_cons ?_ ?_
          ·as_aux_lemma =>
           intro listed vs W' hl hI hd hs hn hu hz ho9
           refine hold ?_
           obtain ⟨x0, x1, x2, x3, x4, x5, x6, x7, x8, x9, x10, x11, x12, rfl⟩ := lenlit13r hl; clear hl
           simp only [factsL, atL, refV, List.getElem?_cons_succ, List.getElem?_cons_zero, List.getD_cons_succ, List.getD_cons_zero, RelL.one, RelL.any, RelL.blk, RelL.law, ROa, ROb, RAo, RNw] at hd
           obtain ⟨rfl, -⟩ := hd
           refine held ?_
           simp only [putAll, Act.put, List.setIfInBounds_toArray, List.set_cons_succ, List.set_cons_zero]
           have hP9 := hP.ext hI
           obtain ⟨d0, d1⟩ := hP9.offAt HK3.out
           have dl := lt_of_cell d0
           simp only at dl
           rw [HOA.out.1, HOA.out.2.1, HOA.out.2.2] at d1
           go_wp2_with fail
           exact relyG_done _ rfl rfl (Ext.refl _) hI
          refine stepsG_cons ?_ ?_
          ·as_aux_lemma =>
           intro listed vs W' hl hI hd hs hn hu hz ho9
           refine hold ?_
           obtain ⟨x0, x1, x2, x3, x4, x5, x6, x7, x8, x9, x10, x11, x12, rfl⟩ := lenlit13r hl; clear hl
           refine held ?_
           simp only [putAll, Act.put, List.setIfInBounds_toArray, List.set_cons_succ, List.set_cons_zero]
           have hE9 := HEB.ext hI
           have s0 := hE9.c 0 _ rfl
           have s1 := hE9.c 1 _ rfl
           have s2 := hE9.c 2 _ rfl
           go_wp2_with fail
           exact relyG_done _ rfl rfl (Ext.refl _) hI
          refine stepsG_cons ?_ ?_
          ·as_aux_lemma =>
           intro listed vs W' hl hI hd hs hn hu hz ho9
           refine hold ?_
           obtain ⟨x0, x1, x2, x3, x4, x5, x6, x7, x8, x9, x10, x11, x12, rfl⟩ := lenlit13r hl; clear hl
           simp only [factsL, atL, refV, List.getElem?_cons_succ, List.getElem?_cons_zero, List.getD_cons_succ, List.getD_cons_zero, RelL.one, RelL.any, RelL.blk, RelL.law, ROa, ROb, RAo, RNw] at hd
           obtain ⟨rfl, rfl, -⟩ := hd
           refine held ?_
           simp only [putAll, Act.put, List.setIfInBounds_toArray, List.set_cons_succ, List.set_cons_zero]
           go_wp2_with (go_at_call 50; refine (HAP.out _ hI).mono ?_; rintro e9 w9 ⟨a9, c9, rfl, ho9x, hx9⟩)
           exact relyG_done _ rfl ⟨a9, c9, rfl, ho9x.monoB hI.sz⟩ hx9 (hI.trans hx9)
          refine stepsG_cons ?_ ?_
          ·as_aux_lemma =>
           intro listed vs W' hl hI hd hs hn hu hz ho9
           refine hold ?_
           obtain ⟨x0, x1, x2, x3, x4, x5, x6, x7, x8, x9, x10, x11, x12, rfl⟩ := lenlit13r hl; clear hl
           simp only [factsL, atL, refV, List.getElem?_cons_succ, List.getElem?_cons_zero, List.getD_cons_succ, List.getD_cons_zero, RelL.one, RelL.any, RelL.blk, RelL.law, ROa, ROb, RAo, RNw] at hd
           obtain ⟨⟨a6, c6, rfl, ho6⟩, -⟩ := hd
           refine held ?_
           simp only [putAll, Act.put, List.setIfInBounds_toArray, List.set_cons_succ, List.set_cons_zero]
           go_wp2_with fail
           exact relyG_done _ rfl ⟨a6, c6, rfl, ho6⟩ (Ext.refl _) hI
          refine stepsG_cons ?_ ?_
          ·as_aux_lemma =>
           intro listed vs W' hl hI hd hs hn hu hz ho9
           refine hold ?_
           obtain ⟨x0, x1, x2, x3, x4, x5, x6, x7, x8, x9, x10, x11, x12, rfl⟩ := lenlit13r hl; clear hl
           simp only [factsL, atL, refV, List.getElem?_cons_succ, List.getElem?_cons_zero, List.getD_cons_succ, List.getD_cons_zero, RelL.one, RelL.any, RelL.blk, RelL.law, ROa, ROb, RAo, RNw] at hd
           obtain ⟨⟨a6, c6, rfl, ho6⟩, -⟩ := hd
           refine held ?_
           simp only [putAll, Act.put, List.setIfInBounds_toArray, List.set_cons_succ, List.set_cons_zero]
           go_wp2_with fail
           exact relyG_done _ rfl ⟨a6, c6, rfl, ho6⟩ (Ext.refl _) hI
          refine stepsG_cons ?_ ?_
          ·as_aux_lemma =>
           intro listed vs W' hl hI hd hs hn hu hz ho9
           refine hold ?_
           obtain ⟨x0, x1, x2, x3, x4, x5, x6, x7, x8, x9, x10, x11, x12, rfl⟩ := lenlit13r hl; clear hl
           simp only [factsL, atL, refV, List.getElem?_cons_succ, List.getElem?_cons_zero, List.getD_cons_succ, List.getD_cons_zero, RelL.one, RelL.any, RelL.blk, RelL.law, ROa, ROb, RAo, RNw] at hd
           obtain ⟨⟨a6, c6, rfl, ho6⟩, -⟩ := hd
           refine held ?_
           simp only [putAll, Act.put, List.setIfInBounds_toArray, List.set_cons_succ, List.set_cons_zero]
           go_wp2_with fail
           exact relyG_done _ rfl rfl (Ext.refl _) hI
          refine stepsG_cons ?_ ?_
          ·as_aux_lemma =>
           intro listed vs W' hl hI hd hs hn hu hz ho9
           refine hold ?_
           obtain ⟨x0, x1, x2, x3, x4, x5, x6, x7, x8, x9, x10, x11, x12, rfl⟩ := lenlit13r hl; clear hl
           refine held ?_
           simp only [putAll, Act.put, List.setIfInBounds_toArray, List.set_cons_succ, List.set_cons_zero]
           go_wp2_with fail
           exact relyG_done _ rfl ⟨_, rfl, hI.sz, Bk.new W' _ _⟩ ((Ext.refl _).alloc _) (hI.alloc _)
          refine stepsG_cons ?_ ?_
          ·as_aux_lemma =>
           intro listed vs W' hl hI hd hs hn hu hz ho9
           refine hold ?_
           obtain ⟨x0, x1, x2, x3, x4, x5, x6, x7, x8, x9, x10, x11, x12, rfl⟩ := lenlit13r hl; clear hl
           simp only [factsL, atL, refV, List.getElem?_cons_succ, List.getElem?_cons_zero, List.getD_cons_succ, List.getD_cons_zero, RelL.one, RelL.any, RelL.blk, RelL.law, ROa, ROb, RAo, RNw] at hd
           obtain ⟨⟨a6, c6, rfl, ho6⟩, ⟨b10, rfl, hge10, hb10⟩, -⟩ := hd
           refine held ?_
           simp only [putAll, Act.put, List.setIfInBounds_toArray, List.set_cons_succ, List.set_cons_zero]
           have s0 := hb10.c 0 _ rfl
           have s1 := hb10.c 1 _ rfl
           have fz := hb10.free
           go_wp2_with fail
           exact relyG_store undef rfl (rao_store hge10 hb10 ho6) (by simp [World.setCell]) ⟨(fun _ _ _ h9 => h9), (fun _ _ _ h9 => h9), (fun _ _ _ h9 => h9), (fun _ _ _ h9 => h9), (fun _ _ _ h9 => h9), (fun _ _ _ h9 => h9), (fun h9 => by simp at h9), (fun _ _ _ h9 => roa_keep hb10 h9), (fun h9 => by simp at h9), (fun _ _ _ h9 => h9), (fun h9 => by simp at h9), (fun _ _ h9 _ => absurd rfl h9), (fun _ hl9 _ _ => absurd (by decide) (hu 12 hl9)), trivial⟩ (hI.set2 hge10 _ _)
          refine stepsG_cons ?_ ?_
          ·as_aux_lemma =>
           intro listed vs W' hl hI hd hs hn hu hz ho9
           refine hold ?_
           obtain ⟨x0, x1, x2, x3, x4, x5, x6, x7, x8, x9, x10, x11, x12, rfl⟩ := lenlit13r hl; clear hl
           simp only [factsL, atL, refV, List.getElem?_cons_succ, List.getElem?_cons_zero, List.getD_cons_succ, List.getD_cons_zero, RelL.one, RelL.any, RelL.blk, RelL.law, ROa, ROb, RAo, RNw] at hd
           obtain ⟨rfl, -⟩ := hd
           refine held ?_
           simp only [putAll, Act.put, List.setIfInBounds_toArray, List.set_cons_succ, List.set_cons_zero]
           go_wp2_with fail
           exact relyG_done _ rfl rfl (Ext.refl _) hI
          exact trivial
         ·intro listed vs W' hl hall hI hd hn
          obtain ⟨x0, x1, x2, x3, x4, x5, x6, x7, x8, x9, x10, x11, x12, rfl⟩ := lenlit13r hl; clear hl
          simp only [List.length_cons, List.length_nil, factsL, atL, refV, List.getElem?_cons_succ, List.getElem?_cons_zero, List.getD_cons_succ, List.getD_cons_zero, RelL.one, RelL.any, RelL.blk, RelL.law, ROa, ROb, RAo, RNw] at hd
          obtain ⟨⟨b16, a6, c6, rfl, hge10, hb10, ho6⟩, rfl, -⟩ := hd
          simp only [putAll, Act.put, List.setIfInBounds_toArray, List.set_cons_succ, List.set_cons_zero]
          clear HAP HNE HEB
          replace hP := hP.ext hI
          replace HX := Lib.hid (HX.out.trans hI)
          have HLG := Lib.hid (ho6.monoB HUD.out)
          have HB16 := hb10
          clear hI hn hall hge10 hb10 ho6
          generalize W' = UE at *
          go_upto_region 30 with fail
          obtain ⟨xt, hxt⟩ : ∃ x, nthR ts k = x := ⟨_, rfl⟩
          have HTS := Lib.hid hxt
          have hxl := hP.tsLen HOK.out HK3.out
          rw [hxt] at hxl
          clear hxt
          obtain ⟨xta, xtn, xtc⟩ := xt
          have HTN : Hid (xtn ≤ 24) := Lib.hid (by have h9 : xtn = (s.lg k).length := hxl; have := (HOK.out.len k).2; omega)
          clear hxl
          have HSZ : Hid (tb ≤ UE.heap.size) := Lib.hid (by have h9 := HX.out.sz; have h8 := HTB.out; omega)
          have HII : ∀ vs, R30 UE tb b6 ob oc b16 k #[.slice (some ⟨ob, 0, none⟩) 3 oc, .slice (some ⟨tb, 0, none⟩) 3 3, .slice ha hn hc, .slice ka 3 kc] ⟨(k : Int) + 1, a6, ln + 1, c6⟩ os ts (s.tm k) T (fun _ => false) vs { UE with drawn := UE.drawn + 1 } := fun vs => ⟨HSZ.out, hP.blk.ext (Ext.refl UE).drew, fun _ => HB16.ext (Ext.refl UE).drew, fun _ => hP.off.ext (Ext.refl UE).drew, fun _ => hP.tim.ext (Ext.refl UE).drew, fun _ => (Ext.refl UE).drew, (fun e => by cases e), (fun e => by cases e), (fun e => by cases e)⟩
          refine region_relyH (R30 UE tb b6 ob oc b16 k #[.slice (some ⟨ob, 0, none⟩) 3 oc, .slice (some ⟨tb, 0, none⟩) 3 3, .slice ha hn hc, .slice ka 3 kc] ⟨((k : Int) + 1), a6, ln + 1, c6⟩ os ts (s.tm k) T) [some 194, some 195, some 196, some 197, some 198, some 199, some 200, some 201, some 202, some 203, some 204, some 205, some 206, some 207, some 208, some 209, none, some 210, none] [[], [0], [], [], [3], [], [], [], [7], [], [7, 8, 9], [7, 8, 9, 10], [], [12], [7, 8, 9, 10, 11, 12, 13], [0, 1, 2, 6, 7, 8, 9, 10, 11, 12, 13, 14], [0, 1, 2, 6, 7, 8, 9, 10, 11, 12, 13, 14, 15], [0, 1, 2, 3, 4, 5, 6, 7, 8, 9, 10, 11, 12, 13, 14, 15, 16], [0, 1, 2, 3, 4, 5, 6, 7, 8, 9, 10, 11, 12, 13, 14, 15, 16, 17]] [[], [0], [], [], [3], [], [], [], [7], [], [8, 9], [10], [], [12], [11, 13], [1, 2], [6, 15], [4, 5], [14, 17]] [none, none, none, none, none, none, none, none, none, none, none, none, none, none, none, none, none, none, none] [false, false, false, false, false, false, false, false, false, false, false, false, false, false, false, false, false, false, false] [[], [], [], [], [], [], [], [], [], [], [], [], [], [], [13], [], [13], [], [13]] [] [.one ((.pointer (some ⟨b6, 0, none⟩))), .one ((.slice (some ⟨ob, 0, none⟩) 3 oc)), .one ((.int .i64 (k : Nat))), .one ((.pointer (some ⟨b6, 1, none⟩))), .one ((.slice (some ⟨tb, 0, none⟩) 3 3)), .one ((.int .i64 (k : Nat))), .one ((.agg #[.int .i64 ((k : Int) + 1), .slice a6 (ln + 1) c6])), .one ((.pointer (some ⟨b6, 1, none⟩))), .one ((.slice (some ⟨tb, 0, none⟩) 3 3)), .one ((.int .i64 (k : Nat))), .one ((.pointer (some ⟨tb, k, none⟩))), .one ((.slice xta xtn xtc)), .one ((.int .i64 T)), RKl tb T, .any, .one ((.pointer (some ⟨ob, k * 2, none⟩))), .any, .one ((.pointer (some ⟨tb, k, none⟩))), .any] (by kernel_rfl) (by kernel_rfl) (by kernel_rfl) rfl (HII _) ?_ ?_
          ·refine stepsH_cons ?_ ?_
           ·as_aux_lemma =>
            intro listed vs W' hl hI hd hs hn hu hz ho9
            refine hold ?_
            obtain ⟨x0, x1, x2, x3, x4, x5, x6, x7, x8, x9, x10, x11, x12, x13, x14, x15, x16, x17, x18, rfl⟩ := lenlit19r hl; clear hl
            refine held ?_
            simp only [putAll, Act.put, List.setIfInBounds_toArray, List.set_cons_succ, List.set_cons_zero]
            go_wp2_with fail
            exact relyH_done _ rfl rfl (Ext.refl _) (hI.same (by decide) (by decide) (by decide) _)
           refine stepsH_cons ?_ ?_
           ·as_aux_lemma =>
            intro listed vs W' hl hI hd hs hn hu hz ho9
            refine hold ?_
            obtain ⟨x0, x1, x2, x3, x4, x5, x6, x7, x8, x9, x10, x11, x12, x13, x14, x15, x16, x17, x18, rfl⟩ := lenlit19r hl; clear hl
            simp only [factsL, atL, refV, List.getElem?_cons_succ, List.getElem?_cons_zero, List.getD_cons_succ, List.getD_cons_zero, RelL.one, RelL.any, RelL.blk, RelL.law, RKl] at hd
            obtain ⟨rfl, -⟩ := hd
            refine held ?_
            simp only [putAll, Act.put, List.setIfInBounds_toArray, List.set_cons_succ, List.set_cons_zero]
            have d0 := hI.p6.c 0 _ rfl
            have d1 := hI.p6.c 1 _ rfl
            go_wp2_with fail
            exact relyH_done _ rfl rfl (Ext.refl _) (hI.same (by decide) (by decide) (by decide) _)
           refine stepsH_cons ?_ ?_
           ·as_aux_lemma =>
            intro listed vs W' hl hI hd hs hn hu hz ho9
            refine hold ?_
            obtain ⟨x0, x1, x2, x3, x4, x5, x6, x7, x8, x9, x10, x11, x12, x13, x14, x15, x16, x17, x18, rfl⟩ := lenlit19r hl; clear hl
            refine held ?_
            simp only [putAll, Act.put, List.setIfInBounds_toArray, List.set_cons_succ, List.set_cons_zero]
            go_wp2_with fail
            exact relyH_done _ rfl rfl (Ext.refl _) (hI.same (by decide) (by decide) (by decide) _)
           refine stepsH_cons ?_ ?_
           ·as_aux_lemma =>
            intro listed vs W' hl hI hd hs hn hu hz ho9
            refine hold ?_
            obtain ⟨x0, x1, x2, x3, x4, x5, x6, x7, x8, x9, x10, x11, x12, x13, x14, x15, x16, x17, x18, rfl⟩ := lenlit19r hl; clear hl
            refine held ?_
            simp only [putAll, Act.put, List.setIfInBounds_toArray, List.set_cons_succ, List.set_cons_zero]
            go_wp2_with fail
            exact relyH_done _ rfl rfl (Ext.refl _) (hI.same (by decide) (by decide) (by decide) _)
           refine stepsH_cons ?_ ?_
           ·as_aux_lemma =>
            intro listed vs W' hl hI hd hs hn hu hz ho9
            refine hold ?_
            obtain ⟨x0, x1, x2, x3, x4, x5, x6, x7, x8, x9, x10, x11, x12, x13, x14, x15, x16, x17, x18, rfl⟩ := lenlit19r hl; clear hl
            simp only [factsL, atL, refV, List.getElem?_cons_succ, List.getElem?_cons_zero, List.getD_cons_succ, List.getD_cons_zero, RelL.one, RelL.any, RelL.blk, RelL.law, RKl] at hd
            obtain ⟨rfl, -⟩ := hd
            refine held ?_
            simp only [putAll, Act.put, List.setIfInBounds_toArray, List.set_cons_succ, List.set_cons_zero]
            have d0 := hI.p6.c 0 _ rfl
            have d1 := hI.p6.c 1 _ rfl
            go_wp2_with fail
            exact relyH_done _ rfl rfl (Ext.refl _) (hI.same (by decide) (by decide) (by decide) _)
           refine stepsH_cons ?_ ?_
           ·as_aux_lemma =>
            intro listed vs W' hl hI hd hs hn hu hz ho9
            refine hold ?_
            obtain ⟨x0, x1, x2, x3, x4, x5, x6, x7, x8, x9, x10, x11, x12, x13, x14, x15, x16, x17, x18, rfl⟩ := lenlit19r hl; clear hl
            refine held ?_
            simp only [putAll, Act.put, List.setIfInBounds_toArray, List.set_cons_succ, List.set_cons_zero]
            go_wp2_with fail
            exact relyH_done _ rfl rfl (Ext.refl _) (hI.same (by decide) (by decide) (by decide) _)
           refine stepsH_cons ?_ ?_
           ·as_aux_lemma =>
            intro listed vs W' hl hI hd hs hn hu hz ho9
            refine hold ?_
            obtain ⟨x0, x1, x2, x3, x4, x5, x6, x7, x8, x9, x10, x11, x12, x13, x14, x15, x16, x17, x18, rfl⟩ := lenlit19r hl; clear hl
            refine held ?_
            simp only [putAll, Act.put, List.setIfInBounds_toArray, List.set_cons_succ, List.set_cons_zero]
            have hb9 := hI.p16 (notL hu 16 (by decide))
            have s0 := hb9.c 0 _ rfl
            have s1 := hb9.c 1 _ rfl
            go_wp2_with fail
            exact relyH_done _ rfl rfl (Ext.refl _) (hI.same (by decide) (by decide) (by decide) _)
           refine stepsH_cons ?_ ?_
           ·as_aux_lemma =>
            intro listed vs W' hl hI hd hs hn hu hz ho9
            refine hold ?_
            obtain ⟨x0, x1, x2, x3, x4, x5, x6, x7, x8, x9, x10, x11, x12, x13, x14, x15, x16, x17, x18, rfl⟩ := lenlit19r hl; clear hl
            refine held ?_
            simp only [putAll, Act.put, List.setIfInBounds_toArray, List.set_cons_succ, List.set_cons_zero]
            go_wp2_with fail
            exact relyH_done _ rfl rfl (Ext.refl _) (hI.same (by decide) (by decide) (by decide) _)
           refine stepsH_cons ?_ ?_
           ·as_aux_lemma =>
            intro listed vs W' hl hI hd hs hn hu hz ho9
            refine hold ?_
            obtain ⟨x0, x1, x2, x3, x4, x5, x6, x7, x8, x9, x10, x11, x12, x13, x14, x15, x16, x17, x18, rfl⟩ := lenlit19r hl; clear hl
            simp only [factsL, atL, refV, List.getElem?_cons_succ, List.getElem?_cons_zero, List.getD_cons_succ, List.getD_cons_zero, RelL.one, RelL.any, RelL.blk, RelL.law, RKl] at hd
            obtain ⟨rfl, -⟩ := hd
            refine held ?_
            simp only [putAll, Act.put, List.setIfInBounds_toArray, List.set_cons_succ, List.set_cons_zero]
            have d0 := hI.p6.c 0 _ rfl
            have d1 := hI.p6.c 1 _ rfl
            go_wp2_with fail
            exact relyH_done _ rfl rfl (Ext.refl _) (hI.same (by decide) (by decide) (by decide) _)
           refine stepsH_cons ?_ ?_
           ·as_aux_lemma =>
            intro listed vs W' hl hI hd hs hn hu hz ho9
            refine hold ?_
            obtain ⟨x0, x1, x2, x3, x4, x5, x6, x7, x8, x9, x10, x11, x12, x13, x14, x15, x16, x17, x18, rfl⟩ := lenlit19r hl; clear hl
            refine held ?_
            simp only [putAll, Act.put, List.setIfInBounds_toArray, List.set_cons_succ, List.set_cons_zero]
            go_wp2_with fail
            exact relyH_done _ rfl rfl (Ext.refl _) (hI.same (by decide) (by decide) (by decide) _)
           refine stepsH_cons ?_ ?_
           ·as_aux_lemma =>
            intro listed vs W' hl hI hd hs hn hu hz ho9
            refine hold ?_
            obtain ⟨x0, x1, x2, x3, x4, x5, x6, x7, x8, x9, x10, x11, x12, x13, x14, x15, x16, x17, x18, rfl⟩ := lenlit19r hl; clear hl
            simp only [factsL, atL, refV, List.getElem?_cons_succ, List.getElem?_cons_zero, List.getD_cons_succ, List.getD_cons_zero, RelL.one, RelL.any, RelL.blk, RelL.law, RKl] at hd
            obtain ⟨rfl, rfl, -⟩ := hd
            refine held ?_
            simp only [putAll, Act.put, List.setIfInBounds_toArray, List.set_cons_succ, List.set_cons_zero]
            have hk3 := HK3.out
            go_wp2_with fail
            exact relyH_done _ rfl rfl (Ext.refl _) (hI.same (by decide) (by decide) (by decide) _)
           refine stepsH_cons ?_ ?_
           ·as_aux_lemma =>
            intro listed vs W' hl hI hd hs hn hu hz ho9
            refine hold ?_
            obtain ⟨x0, x1, x2, x3, x4, x5, x6, x7, x8, x9, x10, x11, x12, x13, x14, x15, x16, x17, x18, rfl⟩ := lenlit19r hl; clear hl
            simp only [factsL, atL, refV, List.getElem?_cons_succ, List.getElem?_cons_zero, List.getD_cons_succ, List.getD_cons_zero, RelL.one, RelL.any, RelL.blk, RelL.law, RKl] at hd
            obtain ⟨rfl, -⟩ := hd
            refine held ?_
            simp only [putAll, Act.put, List.setIfInBounds_toArray, List.set_cons_succ, List.set_cons_zero]
            have hT9 := (hI.tim (notL hu 18 (by decide))).cellsAt HK3.out
            rw [HTS.out, sz_ts, Nat.mul_one] at hT9
            have s0 : W'.cell? ⟨tb, k, none⟩ = some (.slice xta xtn xtc) := hT9 0 _ rfl
            clear hT9
            go_wp2_with fail
            exact relyH_done _ rfl rfl (Ext.refl _) (hI.same (by decide) (by decide) (by decide) _)
           refine stepsH_cons ?_ ?_
           ·as_aux_lemma =>
            intro listed vs W' hl hI hd hs hn hu hz ho9
            refine hold ?_
            obtain ⟨x0, x1, x2, x3, x4, x5, x6, x7, x8, x9, x10, x11, x12, x13, x14, x15, x16, x17, x18, rfl⟩ := lenlit19r hl; clear hl
            refine held ?_
            simp only [putAll, Act.put, List.setIfInBounds_toArray, List.set_cons_succ, List.set_cons_zero]
            go_wp2_with fail
            exact relyH_done _ rfl rfl (Ext.refl _) (hI.same (by decide) (by decide) (by decide) _)
           refine stepsH_cons ?_ ?_
           ·as_aux_lemma =>
            intro listed vs W' hl hI hd hs hn hu hz ho9
            refine hold ?_
            obtain ⟨x0, x1, x2, x3, x4, x5, x6, x7, x8, x9, x10, x11, x12, x13, x14, x15, x16, x17, x18, rfl⟩ := lenlit19r hl; clear hl
            simp only [factsL, atL, refV, List.getElem?_cons_succ, List.getElem?_cons_zero, List.getD_cons_succ, List.getD_cons_zero, RelL.one, RelL.any, RelL.blk, RelL.law, RKl] at hd
            obtain ⟨rfl, -⟩ := hd
            refine held ?_
            simp only [putAll, Act.put, List.setIfInBounds_toArray, List.set_cons_succ, List.set_cons_zero]
            go_wp2_with fail
            exact relyH_done _ rfl ⟨_, rfl, hI.sz, Bk.new W' _ _⟩ ((Ext.refl _).alloc _) (hI.lay (notL hu 14 (by decide)) (notL hu 16 (by decide)) (notL hu 18 (by decide)) ((Ext.refl _).alloc _) _)
           refine stepsH_cons ?_ ?_
           ·as_aux_lemma =>
            intro listed vs W' hl hI hd hs hn hu hz ho9
            refine hold ?_
            obtain ⟨x0, x1, x2, x3, x4, x5, x6, x7, x8, x9, x10, x11, x12, x13, x14, x15, x16, x17, x18, rfl⟩ := lenlit19r hl; clear hl
            simp only [factsL, atL, refV, List.getElem?_cons_succ, List.getElem?_cons_zero, List.getD_cons_succ, List.getD_cons_zero, RelL.one, RelL.any, RelL.blk, RelL.law, RKl] at hd
            obtain ⟨rfl, ⟨p13, rfl, hp13, hb13⟩, -⟩ := hd
            refine held ?_
            simp only [putAll, Act.put, List.setIfInBounds_toArray, List.set_cons_succ, List.set_cons_zero]
            have hx9 := hI.q0 hz
            have ho9 : OwI .i64 RI tb W' xta xtn xtc (s.tm k) := by have h9 := (hP.ext hx9).tms k HK3.out; rw [HTS.out] at h9; exact h9
            have hr8 := hb13.row (cs := [.int .i64 T])
            go_wp2_with (at_builtin; refine appC el_oi rfl _ _ rfl _ tb _ _ _ _ rfl ho9 p13 0 1 1 [.int .i64 T] rfl rfl hr8 (by intro v hv; simp only [List.mem_cons, List.not_mem_nil, or_false] at hv; rcases hv with rfl; rfl) (by omega) hI.sz (by have := HTN.out; unfold maxLen; omega) (by have := HTN.out; omega) ?_; intro g9 c9 w9 ho9x hB9 hG9 hn9; refine hold ?_)
            refine held ?_
            go_wp2_with fail
            have ho9y : OwI .i64 RI tb w9 (some ⟨g9, 0, none⟩) (xtn + 1) c9 (s.tm k ++ [T]) := by unfold OwI; rw [List.map_append]; exact ho9x
            have hgr := hI.grow rfl hz (notL hu 16 (by decide)) (notL hu 18 (by decide)) (by rw [HTS.out]; exact ho9) (by rw [HTS.out]; exact ho9y) hB9 (by rw [HTS.out]; exact hG9) (by rw [HTS.out]; exact own_or ho9 hn9)
            rw [HTS.out] at hgr
            exact relyH_store _ rfl trivial hG9.size ⟨(fun _ _ _ h9 => h9), (fun _ _ _ h9 => h9), (fun _ _ _ h9 => h9), (fun _ _ _ h9 => h9), (fun _ _ _ h9 => h9), (fun _ _ _ h9 => h9), (fun _ _ _ h9 => h9), (fun _ _ _ h9 => h9), (fun _ _ _ h9 => h9), (fun _ _ _ h9 => h9), (fun _ _ _ h9 => h9), (fun _ _ _ h9 => h9), (fun _ _ _ h9 => h9), (fun h9 => by simp at h9), (fun _ _ h9 _ => absurd rfl h9), (fun _ hl9 _ _ => absurd (by decide) (hu 15 hl9)), (fun _ hl9 _ _ => absurd (by decide) (hu 16 hl9)), (fun _ hl9 _ _ => absurd (by decide) (hu 17 hl9)), (fun _ hl9 _ _ => absurd (by decide) (hu 18 hl9)), trivial⟩ hgr
           refine stepsH_cons ?_ ?_
           ·as_aux_lemma =>
            intro listed vs W' hl hI hd hs hn hu hz ho9
            refine hold ?_
            obtain ⟨x0, x1, x2, x3, x4, x5, x6, x7, x8, x9, x10, x11, x12, x13, x14, x15, x16, x17, x18, rfl⟩ := lenlit19r hl; clear hl
            simp only [factsL, atL, refV, List.getElem?_cons_succ, List.getElem?_cons_zero, List.getD_cons_succ, List.getD_cons_zero, RelL.one, RelL.any, RelL.blk, RelL.law, RKl] at hd
            obtain ⟨rfl, rfl, -⟩ := hd
            refine held ?_
            simp only [putAll, Act.put, List.setIfInBounds_toArray, List.set_cons_succ, List.set_cons_zero]
            have hk3 := HK3.out
            go_wp2_with fail
            exact relyH_done _ rfl rfl (Ext.refl _) (hI.same (by decide) (by decide) (by decide) _)
           refine stepsH_cons ?_ ?_
           ·as_aux_lemma =>
            intro listed vs W' hl hI hd hs hn hu hz ho9
            refine hold ?_
            obtain ⟨x0, x1, x2, x3, x4, x5, x6, x7, x8, x9, x10, x11, x12, x13, x14, x15, x16, x17, x18, rfl⟩ := lenlit19r hl; clear hl
            simp only [factsL, atL, refV, List.getElem?_cons_succ, List.getElem?_cons_zero, List.getD_cons_succ, List.getD_cons_zero, RelL.one, RelL.any, RelL.blk, RelL.law, RKl] at hd
            obtain ⟨rfl, rfl, -⟩ := hd
            refine held ?_
            simp only [putAll, Act.put, List.setIfInBounds_toArray, List.set_cons_succ, List.set_cons_zero]
            have hR9 := hI.row hz
            obtain ⟨s0', s1'⟩ := cells_of (hR9.cellsAt HK3.out)
            have s0 : W'.cell? ⟨ob, k * 2, none⟩ = _ := s0'
            have s1 : W'.cell? ⟨ob, k * 2 + 1, none⟩ = _ := s1'
            clear s0' s1'
            have fz := own_free hR9
            go_wp2_with fail
            exact relyH_store undef rfl trivial (by simp [World.setCell]) ⟨(fun _ _ _ h9 => h9), (fun _ _ _ h9 => h9), (fun _ _ _ h9 => h9), (fun _ _ _ h9 => h9), (fun _ _ _ h9 => h9), (fun _ _ _ h9 => h9), (fun _ _ _ h9 => h9), (fun _ _ _ h9 => h9), (fun _ _ _ h9 => h9), (fun _ _ _ h9 => h9), (fun _ _ _ h9 => h9), (fun _ _ _ h9 => h9), (fun _ _ _ h9 => h9), (fun h9 => by simp at h9), (fun _ _ _ h9 => h9), (fun _ _ _ h9 => h9), (fun _ _ h9 _ => absurd rfl h9), (fun _ hl9 _ _ => absurd (by decide) (hu 17 hl9)), (fun _ hl9 _ _ => absurd (by decide) (hu 18 hl9)), trivial⟩ (hI.put (hs 14 (by decide)) hz (notL hu 18 (by decide)) undef)
           refine stepsH_cons ?_ ?_
           ·as_aux_lemma =>
            intro listed vs W' hl hI hd hs hn hu hz ho9
            refine hold ?_
            obtain ⟨x0, x1, x2, x3, x4, x5, x6, x7, x8, x9, x10, x11, x12, x13, x14, x15, x16, x17, x18, rfl⟩ := lenlit19r hl; clear hl
            simp only [factsL, atL, refV, List.getElem?_cons_succ, List.getElem?_cons_zero, List.getD_cons_succ, List.getD_cons_zero, RelL.one, RelL.any, RelL.blk, RelL.law, RKl] at hd
            obtain ⟨rfl, rfl, -⟩ := hd
            refine held ?_
            simp only [putAll, Act.put, List.setIfInBounds_toArray, List.set_cons_succ, List.set_cons_zero]
            have hk3 := HK3.out
            go_wp2_with fail
            exact relyH_done _ rfl rfl (Ext.refl _) (hI.same (by decide) (by decide) (by decide) _)
           refine stepsH_cons ?_ ?_
           ·as_aux_lemma =>
            intro listed vs W' hl hI hd hs hn hu hz ho9
            refine hold ?_
            obtain ⟨x0, x1, x2, x3, x4, x5, x6, x7, x8, x9, x10, x11, x12, x13, x14, x15, x16, x17, x18, rfl⟩ := lenlit19r hl; clear hl
            simp only [factsL, atL, refV, List.getElem?_cons_succ, List.getElem?_cons_zero, List.getD_cons_succ, List.getD_cons_zero, RelL.one, RelL.any, RelL.blk, RelL.law, RKl] at hd
            obtain ⟨-, rfl, -⟩ := hd
            refine held ?_
            simp only [putAll, Act.put, List.setIfInBounds_toArray, List.set_cons_succ, List.set_cons_zero]
            have hT9 := (hI.tim hz).cellsAt HK3.out
            rw [HTS.out, sz_ts, Nat.mul_one] at hT9
            have s0 : W'.cell? ⟨tb, k, none⟩ = some (.slice xta xtn xtc) := hT9 0 _ rfl
            clear hT9
            have fz := own_free (hI.tim hz)
            obtain ⟨g9, c9, hg9, hF9⟩ := hI.fin (hs 14 (by decide)) (hs 16 (by decide)) hz undef
            rw [HTS.out] at hg9 hF9
            have hg8 : x14 = .slice (some ⟨g9, 0, none⟩) (xtn + 1) c9 := hg9
            clear hg9
            subst hg8
            go_wp2_with fail
            exact relyH_store undef rfl trivial (by simp [World.setCell]) ⟨(fun _ _ _ h9 => h9), (fun _ _ _ h9 => h9), (fun _ _ _ h9 => h9), (fun _ _ _ h9 => h9), (fun _ _ _ h9 => h9), (fun _ _ _ h9 => h9), (fun _ _ _ h9 => h9), (fun _ _ _ h9 => h9), (fun _ _ _ h9 => h9), (fun _ _ _ h9 => h9), (fun _ _ _ h9 => h9), (fun _ _ _ h9 => h9), (fun _ _ _ h9 => h9), (fun h9 => by simp at h9), (fun _ _ _ h9 => h9), (fun _ _ _ h9 => h9), (fun _ _ _ h9 => h9), (fun _ _ _ h9 => h9), (fun _ _ h9 _ => absurd rfl h9), trivial⟩ hF9
           exact trivial
          ·intro listed vs W' hl hall hI hd hn
           obtain ⟨x0, x1, x2, x3, x4, x5, x6, x7, x8, x9, x10, x11, x12, x13, x14, x15, x16, x17, x18, rfl⟩ := lenlit19r hl; clear hl
           simp only [List.length_cons, List.length_nil, factsL, atL, refV, List.getElem?_cons_succ, List.getElem?_cons_zero, List.getD_cons_succ, List.getD_cons_zero, RelL.one, RelL.any, RelL.blk, RelL.law, RKl] at hd
           obtain ⟨-⟩ := hd
           simp only [putAll, Act.put, List.setIfInBounds_toArray, List.set_cons_succ, List.set_cons_zero]
           obtain ⟨oc', os', ts', hPF, hXF⟩ := R30.done (by rw [HOA.out.2.1]; exact hI) (hall 18 (by decide)) hP HK3.out (by rw [HOA.out.2.1]; exact HLG.out) HX.out HTB.out
           clear hI hn hall HII
           go_wp2_with fail
           exact ⟨⟨i + 1, oc', ha, hn, hc, ka, kc, os', ts', by omega, by rw [HR.out], by go_num, by rw [HR.out]; exact hPF, Lib.hid hXF⟩, by simp only [intOf]; omega⟩
    ·obtain rfl : i = n := by omega
     clear hi hlt
     have B9 := B4.ext HX.out
     have HBE : Hid (b4 < tb) := Lib.hid (by have := B4.lt; have := HTB.out; omega)
     have HW9 := Lib.hid (HW.out.trans HX.out)
     clear B4
     have q0 := hP.blk.c 0 _ rfl
     have q1 := hP.blk.c 1 _ rfl
     have q2 := hP.blk.c 2 _ rfl
     have q3 := hP.blk.c 3 _ rfl
     have r0 := B9.c 0 _ rfl
     have r1 := B9.c 1 _ rfl
     have r2 := B9.c 2 _ rfl
     have r3 := B9.c 3 _ rfl
     have rf := B9.free
     go_wp2_with fail
     exact bodyPost_ret (res_lgs _ b4 _ _ _ _ (.bool true) _ (by rfl) (by rfl) (B9.set4 _ _ _ _)) rfl ⟨tb, b6, ob, oc, tb, ha, hn, hc, ka, kc, os, ts, rfl, hP.above HB6.out.1 (fun g hg => set4_block (Nat.ne_of_gt (Nat.lt_of_lt_of_le HBE.out hg)) _ _ _ _), HW9.out.set4 (Nat.le_of_eq HB4.out) _ _ _ _⟩
end Go.Proofs.YtacicanjmleikaaGreatDoor
