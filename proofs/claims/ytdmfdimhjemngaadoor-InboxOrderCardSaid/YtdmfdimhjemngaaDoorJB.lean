/-
  The law InboxOrder. Written by wip/gen_jb.py.
-/
import Derived.Test.YtdmfdimhjemngaaDoorJC
namespace Go.Proofs.YtdmfdimhjemngaaDoor
open Go.RowKit Go.Sort Go.Shelf
set_option linter.unusedSimpArgs false
set_option linter.unusedVariables false
set_option maxRecDepth 100000

theorem OwI.at0 {k : IntKind} {E : TypeId} {base : Nat} {w : World} {go oo : Nat} {z : Option Nat} {n c : Nat} {xs : List Int} (h : OwI k E base w (some ⟨go, oo, z⟩) n c xs) : oo = 0 ∧ z = none := by
  rcases h.2 with ⟨hv, _⟩ | ⟨g2, cap, cur, hv, _⟩
  · simp at hv
  · simp only [Value.slice.injEq, Option.some.injEq, Addr.mk.injEq] at hv
    exact ⟨hv.1.2.1, hv.1.2.2⟩
set_option maxHeartbeats 8000000 in
theorem iorder_law (host : Int) (hho : (Lit.int .i64 host).wf = true) (ca : Option Addr) (cn cc : Nat) (rs : List (List Rp)) (au : Int) (hau : 0 ≤ au ∧ au ≤ 65535) (ls : Int) (hls : 0 ≤ ls ∧ ls ≤ 65535) (tu : Int) (htu : 0 ≤ tu ∧ tu ≤ 255) (w : World)
    (h1 : Rws w ca cn cc rs) (ht : TB w) :
    Calls Tryd.prog 4 #[.agg #[.int .i64 host, .slice ca cn cc], .int .u16 au, .int .u16 ls, .int .u8 tu] w fun e w' => e = .returned (.bool true) ∧ Ext w w' := by
  have bd := h1.bd
  have HT := Lib.hid ht
  have HL := Lib.hid h1.hlen
  have hC := Bk.new w 24 #[.int .i64 host, .slice ca cn cc]
  have hE : Ext w (w.alloc (.cells #[.int .i64 host, .slice ca cn cc] 24)) := (Ext.refl w).alloc _
  clear ht
  go_enter Tryd.func4, Tryd.ntmps4
  go_upto_region 1 with fail
  generalize w.alloc (.cells #[.int .i64 host, .slice ca cn cc] 24) = V at *
  generalize w.heap.size = cb at hC ⊢
  have c0 := hC.c 0 _ rfl
  have c1 := hC.c 1 _ rfl
  go_wp2_with fail
  refine (ihead_any V (TB.ext HT.out hE)).mono ?_
  rintro _ w1 ⟨rfl, hx⟩
  clear c0 c1
  replace hC := hC.ext hx
  replace hE := hE.trans hx
  clear hx
  have c0 := hC.c 0 _ rfl
  have c1 := hC.c 1 _ rfl
  go_wp2_with fail
  refine (opened_any host hho ca cn cc rs 0 0 rfl rfl au hau w1 (h1.ext hE) (TB.ext HT.out hE)).mono ?_
  rintro _ w2 (⟨ho, rfl, hx⟩ | ⟨ho, sa, sn, sc, ga, gn, gc, la, ln, lc, rfl, hF, hL, hx⟩)
  · clear c0 c1
    replace hE := hE.trans hx
    go_wp2_with fail
    go_ret
    exact ⟨rfl, hE.alloc _⟩
  · have HO := Lib.hid ho
    have hop := okU_open au ho
    have HP0 : Hid (frmX (bxU host rs 0 0 au) = true ∧ (bxU host rs 0 0 au).got = [] ∧ (bxU host rs 0 0 au).asked = askU au 16 ∧ (bxU host rs 0 0 au).sent = 0) := Lib.hid ⟨hop.2.2.1, rfl, rfl, rfl⟩
    have HA1 : Hid (∀ i, i < (askU au 16).length → 1 ≤ nth (askU au 16) i ∧ nth (askU au 16) i ≤ 16) := Lib.hid (fun i hi => by have := askU_le au 16 _ (nth_mem hi); omega)
    have hlm : ln = (askU au 16).length := by rw [← hL.hlen, List.length_map]
    have hl16 : ln ≤ 16 := by rw [hlm]; exact askU_len au 16
    have HLM := Lib.hid hlm
    clear hlm hop ho
    have hE1 := hE.trans hx
    clear c0 c1 hC hE hx
    generalize bxU host rs 0 0 au = BB at *
    generalize askU au 16 = A at *
    have bl := hL.bd
    go_upto_region 3 with fail
    have hB := Bk.new w2 33 #[.int .i64 BB.host, .int .i64 BB.round, .int .u64 BB.head, .int .i64 BB.sent, .int .i64 BB.wait, .slice sa sn sc, .slice ga gn gc]
    have hx2 : Ext w2 (w2.alloc (.cells #[.int .i64 BB.host, .int .i64 BB.round, .int .u64 BB.head, .int .i64 BB.sent, .int .i64 BB.wait, .slice sa sn sc, .slice ga gn gc] 33)) := (Ext.refl w2).alloc _
    generalize w2.alloc (.cells #[.int .i64 BB.host, .int .i64 BB.round, .int .u64 BB.head, .int .i64 BB.sent, .int .i64 BB.wait, .slice sa sn sc, .slice ga gn gc] 33) = V2 at *
    obtain ⟨b0, hb0e⟩ : ∃ z, w2.heap.size = z := ⟨_, rfl⟩
    rw [hb0e] at hB ⊢
    clear hb0e
    have hF2 := hF.ext hx2
    have hL2 := hL.ext hx2
    have hE2 := hE1.trans hx2
    clear hF hL hE1 hx2
    have hL := hL2
    clear hL2
    go_wp2_with fail
    go_loopw [13, 14, 40] (fun s s2 i wr => ∃ (k m : Nat) (oa : Option Addr) (oc : Nat) (ba : Option Addr) (bc : Nat), k ≤ ln ∧ m ≤ k ∧ i = .int .i64 (k : Int) ∧ s = .slice oa m oc ∧ s2 = .slice ba m bc ∧ OwI .i64 3 V2.heap.size wr oa m oc (ordU ls A k) ∧ Sl .i64 wr ba m bc (ordU ls A k).reverse ∧ (∀ g, oa = some ⟨g, 0, none⟩ → Aprt g ba m) ∧ Ext V2 wr) (fun _ _ i _ => ln - (intOf i).toNat)
    case atStart => exact ⟨0, 0, none, 0, none, 0, by omega, by omega, rfl, rfl, rfl, OwI.nil _ _ _ _, Sl.noneNil _ _, fun g e => (by cases e), Ext.refl V2⟩
    case round =>
      obtain ⟨k, m, oa, oc, ba, bc, hk, hmk, rfl, rfl, rfl, ho, hS, hap, hEr⟩ := hrel
      by_cases hlt : k < ln
      · have hJr := nthR_rqs BB (l := A) (i := k) (by rw [← HLM.out]; exact hlt)
        have hxr : 1 ≤ nth A k ∧ nth A k ≤ 16 := HA1.out k (by rw [← HLM.out]; exact hlt)
        obtain ⟨rb, ro, rfl, hcl⟩ := hL.at (by omega)
        have hcJ := cells_rq (rangeAt_ext (hcl k hlt) hEr)
        rw [hJr, sz_rq] at hcJ
        clear hcl hJr
        have hqa : (rq1 BB (nth A k)).a = nth A k := rfl
        obtain ⟨q, hqe⟩ : ∃ q, rq1 BB (nth A k) = q := ⟨_, rfl⟩
        rw [hqe] at hcJ hqa
        clear hqe
        obtain ⟨x, hxe⟩ : ∃ x, nth A k = x := ⟨_, rfl⟩
        have HXA := Lib.hid hxe
        rw [hxe] at hxr hqa
        clear hxe
        obtain ⟨e0, e1, e2, e3⟩ := hcJ
        rw [hqa] at e1
        obtain ⟨s, hse⟩ : ∃ s : Nat, (x % 16).toNat = s := ⟨_, rfl⟩
        have hb15 : bits BinOp.and IntKind.i64 x 15 = (s : Int) := by rw [and15 ⟨by omega, by omega⟩]; omega
        have hs63 : s < 16 := by omega
        have hlv : lossV ls x = bitV ls s := by unfold lossV; rw [hse]
        clear hse
        go_upto_region 9 with fail
        have hq := Bk.new wr 44 #[.int .i64 q.h, .int .i64 x, .int .i64 q.r, .int .u64 q.n]
        have hx1 : Ext wr (wr.alloc (.cells #[.int .i64 q.h, .int .i64 x, .int .i64 q.r, .int .u64 q.n] 44)) := (Ext.refl wr).alloc _
        generalize wr.alloc (.cells #[.int .i64 q.h, .int .i64 x, .int .i64 q.r, .int .u64 q.n] 44) = W1 at *
        obtain ⟨qb, hqb⟩ : ∃ z, wr.heap.size = z := ⟨_, rfl⟩
        rw [hqb] at hq ⊢
        clear hqb
        have hq0 := hq.c 0 _ rfl
        have hq1 := hq.c 1 _ rfl
        have hq2 := hq.c 2 _ rfl
        have hq3 := hq.c 3 _ rfl
        have fq := hq.free
        rcases bitV_01 hls s with h0 | h0
        · have HLO : Hid ((lossV ls x == 0) = true) := Lib.hid (by rw [hlv, h0]; rfl)
          have hb : bits BinOp.and IntKind.u16 (ls / 2 ^ s) 1 = 0 := h0
          clear h0 hlv
          have HS : Hid (ordU ls A (k + 1) = ordU ls A k ++ [(k : Int)]) := Lib.hid (by rw [ordU_succ, HXA.out, show (lossV ls x == 0) = true from HLO.out]; rfl)
          have hlw : Ext W1 (W1.alloc (.cells #[.int .i64 (k : Int)] 3)) := (Ext.refl W1).alloc _
          have ho2 := ho.ext (hx1.trans hlw)
          have hrow : (W1.alloc (.cells #[.int .i64 (k : Int)] 3)).rangeAt W1.heap.size 0 [.int .i64 (k : Int)] := fun j u hu => by
            rw [cell_of_row _ W1.heap.size (0 + j) #[.int .i64 (k : Int)] 3 (0, 0) (World.alloc_heap_new W1 _), ← Array.getElem?_toList, Nat.zero_add]
            exact hu
          have hsz := hEr.sz
          have hsz1 := hx1.sz
          have hS2 := hS.ext (hx1.trans hlw)
          go_wp2_with (at_builtin; refine appC el_i64S rfl _ _ rfl _ V2.heap.size _ _ _ _ rfl ho2 W1.heap.size 0 1 1 [.int .i64 (k : Int)] rfl rfl hrow (by simp [Value.oneCell']) (by omega) (by simp; omega) (by unfold maxLen; omega) (by omega) ?_; intro g c1' w5 ho3 hB3 hg3 hd3; refine hold ?_)
          have ho4 : OwI .i64 3 V2.heap.size w5 (some ⟨g, 0, none⟩) (m + 1) c1' (ordU ls A k ++ [(k : Int)]) := by
            unfold OwI
            rw [List.map_append]
            exact ho3
          have hS5 : Sl .i64 w5 ba m bc (ordU ls A k).reverse := hS2.below (fun b0 off ha hn => by
            have hlt : b0 < wr.heap.size := by
              obtain ⟨b', off', he, hc⟩ := hS.at hn
              rw [ha] at he
              simp only [Option.some.injEq, Addr.mk.injEq, and_true] at he
              obtain ⟨rfl, rfl⟩ := he
              have := lt_of_cell (hc 0 hn)
              exact this
            refine hg3.block b0 (by simp; omega) (fun e => ?_)
            rcases oa with _ | ⟨go, oo, z⟩
            · simp [Value.ownBlock] at e
            · simp only [Value.ownBlock, Option.some.injEq] at e
              obtain ⟨hz0, hz1⟩ := OwI.at0 ho
              subst hz0 hz1
              exact hap go rfl b0 off ha hn e)
          have hE5 : Ext V2 w5 := Below.trans (hEr.trans (hx1.trans hlw)) hB3
          clear ho2 hrow hS2 hlw ho3 hB3 hg3 hd3 hq0 hq1 hq2 hq3 fq hq hx1 e0 e1 e2 e3
          refine held ?_
          have hS6 := hS5.ext ((Ext.refl w5).alloc (.cells #[.int .i64 (k : Int)] 3))
          have hlit : OwI .i64 3 w5.heap.size (w5.alloc (.cells #[.int .i64 (k : Int)] 3)) (some ⟨w5.heap.size, 0, none⟩) 1 1 [(k : Int)] := OwI.lit .i64 3 w5 [(k : Int)] (Nat.le_refl _) (by simp [maxLen]) #[.int .i64 (k : Int)] rfl
          go_wp2_with (at_builtin; refine appA el_i64 rfl _ _ rfl _ w5.heap.size _ _ _ _ rfl hlit ba m bc _ rfl hS6 (by simp) (by unfold maxLen; omega) (by omega) ?_; intro a6 c6' w6 ho6 hB6; rw [Nat.add_comm 1 m] at ho6 ⊢; refine hold ?_)
          refine held ?_
          go_wp2_with fail
          have hx6 : Ext w5 w6 := Below.trans ((Ext.refl w5).alloc (.cells #[.int .i64 (k : Int)] 3)) hB6
          have hgw := OwI.ge ho4
          have hw6 : ∀ y ∈ [(k : Int)] ++ (ordU ls A k).reverse, (Lit.int .i64 y).wf = true := by
            intro y hy
            rcases List.mem_append.1 hy with h | h
            · simp only [List.mem_singleton] at h
              subst h
              exact nat_wf (by omega)
            · exact hS.wf y h
          exact ⟨⟨k + 1, m + 1, some ⟨g, 0, none⟩, c1', a6, c6', by omega, by omega, by go_num, rfl, rfl, by rw [HS.out]; exact ho4.ext hx6, by rw [HS.out, List.reverse_append]; exact ho6.sl hw6, fun g0 e => (by cases e; exact ho6.frsh.ap hgw.2), hE5.trans hx6⟩, by simp [intOf]; omega⟩
        · have HLO : Hid ((lossV ls x == 0) = false) := Lib.hid (by rw [hlv, h0]; rfl)
          have hb : bits BinOp.and IntKind.u16 (ls / 2 ^ s) 1 = 1 := h0
          clear h0 hlv
          have HS : Hid (ordU ls A (k + 1) = ordU ls A k) := Lib.hid (by rw [ordU_succ, HXA.out, show (lossV ls x == 0) = false from HLO.out]; rfl)
          go_wp2_with fail
          exact ⟨⟨k + 1, m, oa, oc, ba, bc, by omega, by omega, by go_num, rfl, rfl, by rw [HS.out]; exact ho.ext hx1, by rw [HS.out]; exact hS.ext hx1, hap, hEr.trans hx1⟩, by simp [intOf]; omega⟩
      · obtain rfl : k = ln := by omega
        have hP : OrdP BB (ordU ls A k) := by rw [show k = A.length from HLM.out]; exact ordU_P HP0.out.1 hF2.ok HP0.out.2.1 ls HP0.out.2.2.1
        have HRi := Lib.hid (pw_nth (ordU_pw ls A k))
        have hOm := ordU_mem (lo := ls) (A := A) (k := k)
        have HOW := Lib.hid (ordW (m := k) (by omega) hOm)
        have hlen := ho.hlen
        have hSo := ho.sl HOW.out
        generalize ordU ls A k = O at *
        have HP := Lib.hid hP
        have HLEN := Lib.hid hlen
        have HOM := Lib.hid hOm
        clear hP hlen hOm ho hap
        have hBr := hB.ext hEr
        have hEw := hE2.trans hEr
        have bso := hSo.bd
        by_cases hm0 : m = 0
        · have q1 : ((m : Int) == 0) = true := by simp; omega
          have q2 : ((0 : Int) == (m : Int)) = true := by simp; omega
          go_wp2_with fail
          go_ret
          exact ⟨rfl, hEw⟩
        have hm1 : 0 < m := by omega
        have q1 : ((m : Int) == 0) = false := by simp; omega
        have q2 : ((0 : Int) == (m : Int)) = false := by simp; omega
        have q3 : (m == 0) = false := by simp; omega
        have n0 : ¬ ((m : Int) = 0) := by omega
        obtain ⟨J, hJ, hJn⟩ := idx_bdI htu hm1
        have hwq : wrap64 tu = tu := by unfold wrap64; omega
        have hJ2 : tu.tmod (m : Int) = (J : Int) := by rw [hwq] at hJ; exact hJ
        clear hm0
        have p0 := hBr.c 0 _ rfl
        have p1 := hBr.c 1 _ rfl
        have p2 := hBr.c 2 _ rfl
        have p3 := hBr.c 3 _ rfl
        have p4 := hBr.c 4 _ rfl
        have p5 := hBr.c 5 _ rfl
        have p6 := hBr.c 6 _ rfl

        go_upto_region 17 with fail
        clear q1 q2 q3 n0 hJ hwq hJ2
        have HXE := Lib.hid (ansU_perm HP.out (List.Perm.refl O))
        have HYE := Lib.hid (ansU_perm HP.out (List.reverse_perm O).symm)
        have HZE := Lib.hid (ansU_perm HP.out (ord_rot O J))
        obtain ⟨X, hX⟩ : ∃ z, bxO BB O = z := ⟨_, rfl⟩
        have HXX := Lib.hid hX
        have HAX : Hid (∀ x ∈ X.asked, 1 ≤ x) := Lib.hid (by rw [← hX]; show ∀ x ∈ BB.asked, 1 ≤ x; exact asked_pos HP0.out.1)
        have hgl : X.got.length = m := by rw [← hX]; show (ansU BB O).length = m; unfold ansU; rw [ansU_len, HLEN.out]; simp
        have HGL := Lib.hid hgl
        clear hX hgl
        go_wp2_with fail
        refine (takeO_any BB sa sn sc ga gn gc la k lc oa m oc O false wr (hF2.ext hEr) (by rw [HP0.out.2.2.1]; exact hL.ext hEr) hSo HP.out (TB.ext HT.out hEw)).mono ?_
        rw [HXX.out]
        rintro _ w3 ⟨sa1, sn1, sc1, ga1, gn1, gc1, rfl, hX1, hx3⟩
        clear p0 p1 p2 p3 p4 p5 p6
        obtain rfl : gn1 = m := by rw [← hX1.rw.hlen, HGL.out]
        go_upto_region 18 with fail
        have hXb := Bk.new w3 33 #[.int .i64 X.host, .int .i64 X.round, .int .u64 X.head, .int .i64 X.sent, .int .i64 X.wait, .slice sa1 sn1 sc1, .slice ga1 gn1 gc1]
        have hxa : Ext w3 (w3.alloc (.cells #[.int .i64 X.host, .int .i64 X.round, .int .u64 X.head, .int .i64 X.sent, .int .i64 X.wait, .slice sa1 sn1 sc1, .slice ga1 gn1 gc1] 33)) := (Ext.refl w3).alloc _
        generalize w3.alloc (.cells #[.int .i64 X.host, .int .i64 X.round, .int .u64 X.head, .int .i64 X.sent, .int .i64 X.wait, .slice sa1 sn1 sc1, .slice ga1 gn1 gc1] 33) = W3 at *
        obtain ⟨xb, hxb⟩ : ∃ z, w3.heap.size = z := ⟨_, rfl⟩
        rw [hxb] at hXb ⊢
        clear hxb
        have hx33 := hx3.trans hxa
        have hE3 := hEr.trans hx33
        have hEw3 := hEw.trans hx33
        have hX13 := hX1.ext hxa
        have hB3 := hB.ext hE3
        have hS3 := hS.ext hx33
        have hSo3 := hSo.ext hx33
        clear hxa hx3 hX1 hx33
        have p0 := hB3.c 0 _ rfl
        have p1 := hB3.c 1 _ rfl
        have p2 := hB3.c 2 _ rfl
        have p3 := hB3.c 3 _ rfl
        have p4 := hB3.c 4 _ rfl
        have p5 := hB3.c 5 _ rfl
        have p6 := hB3.c 6 _ rfl
        go_wp2_with fail
        refine (takeO_any BB sa sn sc ga gn gc la k lc ba gn1 bc O.reverse true W3 (hF2.ext hE3) (by rw [HP0.out.2.2.1]; exact hL.ext hE3) hS3 (HP.out.perm (List.reverse_perm O).symm) (TB.ext HT.out hEw3)).mono ?_
        rw [← HYE.out, HXX.out]
        rintro _ w4 ⟨sa2, sn2, sc2, ga2, gn2, gc2, rfl, hY1, hx4⟩
        clear p0 p1 p2 p3 p4 p5 p6
        go_upto_region 19 with fail
        have hYb := Bk.new w4 33 #[.int .i64 X.host, .int .i64 X.round, .int .u64 X.head, .int .i64 X.sent, .int .i64 X.wait, .slice sa2 sn2 sc2, .slice ga2 gn2 gc2]
        have hxa : Ext w4 (w4.alloc (.cells #[.int .i64 X.host, .int .i64 X.round, .int .u64 X.head, .int .i64 X.sent, .int .i64 X.wait, .slice sa2 sn2 sc2, .slice ga2 gn2 gc2] 33)) := (Ext.refl w4).alloc _
        generalize w4.alloc (.cells #[.int .i64 X.host, .int .i64 X.round, .int .u64 X.head, .int .i64 X.sent, .int .i64 X.wait, .slice sa2 sn2 sc2, .slice ga2 gn2 gc2] 33) = Wz at *
        obtain ⟨yb, hyb⟩ : ∃ z, w4.heap.size = z := ⟨_, rfl⟩
        rw [hyb] at hYb ⊢
        clear hyb
        have hx44 := hx4.trans hxa
        have hE4 := hE3.trans hx44
        have hEw4 := hEw3.trans hx44
        have hY4 := hY1.ext hxa
        have hX14 := hX13.ext hx44
        have hXb4 := hXb.ext hx44
        have hB4 := hB.ext hE4
        have hSo4 := hSo3.ext hx44
        clear hxa hx4 hx44 hY1 hX13 hXb hB3 hS3 hSo3
        have p0 := hB4.c 0 _ rfl
        have p1 := hB4.c 1 _ rfl
        have p2 := hB4.c 2 _ rfl
        have p3 := hB4.c 3 _ rfl
        have p4 := hB4.c 4 _ rfl
        have p5 := hB4.c 5 _ rfl
        have p6 := hB4.c 6 _ rfl
        obtain ⟨ob, oo, rfl, hco⟩ := hSo4.at hm1
        obtain ⟨lb, lf, rfl, hcl⟩ := hL.at (show 0 < k by omega)
        have hL4 := hL.ext hE4
        have HDL : Hid ((O.drop J).length = gn1 - J) := Lib.hid (by rw [List.length_drop, HLEN.out])
        have HTL : Hid ((O.take J).length = J) := Lib.hid (by rw [List.length_take, HLEN.out]; omega)
        have hcD : ∀ i, i < gn1 - J → Wz.cell? ⟨ob, oo + J + i, none⟩ = some (.int .i64 (nth (O.drop J) i)) := fun i hi => by rw [nth_drop, Nat.add_assoc]; exact hco (J + i) (by omega)
        have hcT : ∀ i, i < J → Wz.cell? ⟨ob, oo + i, none⟩ = some (.int .i64 (nth (O.take J) i)) := fun i hi => by rw [nth_take hi]; exact hco i (by omega)
        have HWF : Hid (∀ y ∈ O.drop J ++ O.take J, (Lit.int .i64 y).wf = true) := Lib.hid (fun y hy => HOW.out y (by
          simp only [List.mem_append] at hy
          rcases hy with h | h
          · exact List.mem_of_mem_drop h
          · exact List.mem_of_mem_take h))
        have htz := fun (W : World) (hW : Ext Wz W) (a : Option Addr) (n c : Nat) (hs : Sl .i64 W a n c (O.drop J ++ O.take J)) => takeO_any BB sa sn sc ga gn gc (some ⟨lb, lf, none⟩) k lc a n c (O.drop J ++ O.take J) false W ((hF2.ext hE4).ext hW) (by rw [HP0.out.2.2.1]; exact hL4.ext hW) hs (HP.out.perm (ord_rot O J)) (TB.ext HT.out (hEw4.trans hW))
        rw [show bxO BB (O.drop J ++ O.take J) = X by rw [← HZE.out, HXX.out]] at htz
        have HTZ := Lib.hid htz
        clear htz
        refine region_relyF (fun listed W' => Ext Wz W') [some 85, some 86, some 87, some 88, some 89, some 90, some 91, some 92, some 93, some 94, some 95, some 96, some 84, some 97, some 98, some 23, none, some 24] [[], [], [], [], [], [3, 4], [2, 3, 4, 5], [], [], [7, 8], [2, 3, 4, 5, 6, 7, 8, 9], [0, 1, 2, 3, 4, 5, 6, 7, 8, 9, 10], [0, 1, 2, 3, 4, 5, 6, 7, 8, 9, 10, 11], [0, 1, 2, 3, 4, 5, 6, 7, 8, 9, 10, 11, 12], [0, 1, 2, 3, 4, 5, 6, 7, 8, 9, 10, 11, 12], [], [0, 1, 2, 3, 4, 5, 6, 7, 8, 9, 10, 11, 12, 13, 15], [0, 1, 2, 3, 4, 5, 6, 7, 8, 9, 10, 11, 12, 13, 14, 15, 16]] [[], [], [], [], [], [3, 4], [2, 5], [], [], [7, 8], [6, 9], [0, 1, 10], [11], [12], [12], [], [13, 15], [14]] [none, none, none, none, none, none, none, none, none, none, none, none, none, none, none, none, some 15, none] [false, false, false, false, false, false, false, false, false, false, false, false, false, false, false, false, false, false] [.one (.agg #[.int .i64 BB.host, .int .i64 BB.round, .int .u64 BB.head, .int .i64 BB.sent, .int .i64 BB.wait, .slice sa sn sc, .slice ga gn gc]), .one (.slice (some ⟨lb, lf, none⟩) k lc), RLi0 Wz.heap.size, .one (.slice (some ⟨ob, oo, none⟩) gn1 oc), .one (.int .i64 (J : Int)), .one (.slice (some ⟨ob, oo + J, none⟩) (gn1 - J) (oc - J)), ROwi Wz.heap.size (gn1 - J) (O.drop J), .one (.slice (some ⟨ob, oo, none⟩) gn1 oc), .one (.int .i64 (J : Int)), .one (.slice (some ⟨ob, oo, none⟩) J oc), ROwi Wz.heap.size (gn1 - J + J) (O.drop J ++ O.take J), RTk X, RTk X, RBox X, .one (.bool true), RPtr Wz.heap.size X, RStd Wz.heap.size X, .one (.bool true)] (by kernel_rfl) (by kernel_rfl) rfl (Ext.refl Wz).drew ?_ ?_
        · refine stepsF_cons ?_ ?_
          · intro listed vs W' hl hI hd hs hn hu hz ho9
            refine hold ?_
            obtain ⟨x0, x1, x2, x3, x4, x5, x6, x7, x8, x9, x10, x11, x12, x13, x14, x15, x16, x17, rfl⟩ := lenlit18 hl; clear hl
            refine held ?_
            simp only [putAll, Act.put, List.setIfInBounds_toArray, List.set_cons_succ, List.set_cons_zero]
            have q0 := hI.cell p0
            have q1 := hI.cell p1
            have q2 := hI.cell p2
            have q3 := hI.cell p3
            have q4 := hI.cell p4
            have q5 := hI.cell p5
            have q6 := hI.cell p6
            go_wp2_with fail
            exact relyE_done _ rfl rfl (Ext.refl _) hI
          refine stepsF_cons ?_ ?_
          · intro listed vs W' hl hI hd hs hn hu hz ho9
            refine hold ?_
            obtain ⟨x0, x1, x2, x3, x4, x5, x6, x7, x8, x9, x10, x11, x12, x13, x14, x15, x16, x17, rfl⟩ := lenlit18 hl; clear hl
            refine held ?_
            simp only [putAll, Act.put, List.setIfInBounds_toArray, List.set_cons_succ, List.set_cons_zero]
            go_wp2_with fail
            exact relyE_done _ rfl rfl (Ext.refl _) hI
          refine stepsF_cons ?_ ?_
          · intro listed vs W' hl hI hd hs hn hu hz ho9
            refine hold ?_
            obtain ⟨x0, x1, x2, x3, x4, x5, x6, x7, x8, x9, x10, x11, x12, x13, x14, x15, x16, x17, rfl⟩ := lenlit18 hl; clear hl
            refine held ?_
            simp only [putAll, Act.put, List.setIfInBounds_toArray, List.set_cons_succ, List.set_cons_zero]
            go_wp2_with fail
            exact relyE_done _ rfl ⟨_, rfl, hI.sz, World.alloc_heap_new _ _⟩ ((Ext.refl _).alloc _) (hI.alloc _)
          refine stepsF_cons ?_ ?_
          · intro listed vs W' hl hI hd hs hn hu hz ho9
            refine hold ?_
            obtain ⟨x0, x1, x2, x3, x4, x5, x6, x7, x8, x9, x10, x11, x12, x13, x14, x15, x16, x17, rfl⟩ := lenlit18 hl; clear hl
            refine held ?_
            simp only [putAll, Act.put, List.setIfInBounds_toArray, List.set_cons_succ, List.set_cons_zero]
            go_wp2_with fail
            exact relyE_done _ rfl rfl (Ext.refl _) hI
          refine stepsF_cons ?_ ?_
          · intro listed vs W' hl hI hd hs hn hu hz ho9
            refine hold ?_
            obtain ⟨x0, x1, x2, x3, x4, x5, x6, x7, x8, x9, x10, x11, x12, x13, x14, x15, x16, x17, rfl⟩ := lenlit18 hl; clear hl
            refine held ?_
            simp only [putAll, Act.put, List.setIfInBounds_toArray, List.set_cons_succ, List.set_cons_zero]
            go_wp2_with fail
            exact relyE_done _ rfl rfl (Ext.refl _) hI
          refine stepsF_cons ?_ ?_
          · intro listed vs W' hl hI hd hs hn hu hz ho9
            refine hold ?_
            obtain ⟨x0, x1, x2, x3, x4, x5, x6, x7, x8, x9, x10, x11, x12, x13, x14, x15, x16, x17, rfl⟩ := lenlit18 hl; clear hl
            simp only [factsL, atL, refV, List.getElem?_cons_succ, List.getElem?_cons_zero, List.getD_cons_succ, List.getD_cons_zero, RelL.one, RelL.any, RelL.blk, RelL.law, RLi0, ROwi, RTk, RBox, RPtr, RStd] at hd
            obtain ⟨rfl, rfl, -⟩ := hd
            refine held ?_
            simp only [putAll, Act.put, List.setIfInBounds_toArray, List.set_cons_succ, List.set_cons_zero]
            have hoc1 : J ≤ oc := by omega
            go_wp2_with fail
            exact relyE_done _ rfl rfl (Ext.refl _) hI
          refine stepsF_cons ?_ ?_
          · intro listed vs W' hl hI hd hs hn hu hz ho9
            refine hold ?_
            obtain ⟨x0, x1, x2, x3, x4, x5, x6, x7, x8, x9, x10, x11, x12, x13, x14, x15, x16, x17, rfl⟩ := lenlit18 hl; clear hl
            simp only [factsL, atL, refV, List.getElem?_cons_succ, List.getElem?_cons_zero, List.getD_cons_succ, List.getD_cons_zero, RelL.one, RelL.any, RelL.blk, RelL.law, RLi0, ROwi, RTk, RBox, RPtr, RStd] at hd
            obtain ⟨⟨g2, rfl, hg2, hc2⟩, rfl, -⟩ := hd
            refine held ?_
            simp only [putAll, Act.put, List.setIfInBounds_toArray, List.set_cons_succ, List.set_cons_zero]
            go_wp2_with (at_builtin; refine appKeep el_i64 rfl _ _ rfl _ Wz.heap.size g2 0 0 [] rfl (li0_ow hg2 hc2) ob (oo + J) (gn1 - J) (oc - J) (O.drop J) rfl HDL.out (fun i hi => hI.cell (hcD i hi)) hI.sz (by unfold maxLen; omega) (by omega) ?_; intro g6 c6 w6 ho6 hB6 hgr hkeep; rw [Nat.zero_add] at ho6 ⊢; rw [List.nil_append] at ho6; refine hold ?_)
            refine held ?_
            exact wpList_nil (relyE_store _ rfl ⟨_, _, rfl, ho6⟩ hB6.size ⟨fun _ _ h => h, fun _ _ h => h, fun _ _ _ => ⟨g2, rfl, hg2, ow_li0 hkeep⟩, fun _ _ h => h, fun _ _ h => h, fun _ _ h => h, fun _ hk _ => absurd rfl hk, fun _ _ h => h, fun _ _ h => h, fun _ _ h => h, fun h _ _ => absurd (by decide) (hu 10 h), fun h _ _ => absurd (by decide) (hu 11 h), fun h _ _ => absurd (by decide) (hu 12 h), fun h _ _ => absurd (by decide) (hu 13 h), fun h _ _ => absurd (by decide) (hu 14 h), fun _ _ ⟨b, e1, e2, e3⟩ => ⟨b, e1, e2, e3.by hgr (e3.ne (li0_ow hg2 hc2))⟩, fun h _ _ => absurd (by decide) (hu 16 h), fun h _ _ => absurd (by decide) (hu 17 h), trivial⟩ (Below.trans hI hB6))
          refine stepsF_cons ?_ ?_
          · intro listed vs W' hl hI hd hs hn hu hz ho9
            refine hold ?_
            obtain ⟨x0, x1, x2, x3, x4, x5, x6, x7, x8, x9, x10, x11, x12, x13, x14, x15, x16, x17, rfl⟩ := lenlit18 hl; clear hl
            refine held ?_
            simp only [putAll, Act.put, List.setIfInBounds_toArray, List.set_cons_succ, List.set_cons_zero]
            go_wp2_with fail
            exact relyE_done _ rfl rfl (Ext.refl _) hI
          refine stepsF_cons ?_ ?_
          · intro listed vs W' hl hI hd hs hn hu hz ho9
            refine hold ?_
            obtain ⟨x0, x1, x2, x3, x4, x5, x6, x7, x8, x9, x10, x11, x12, x13, x14, x15, x16, x17, rfl⟩ := lenlit18 hl; clear hl
            refine held ?_
            simp only [putAll, Act.put, List.setIfInBounds_toArray, List.set_cons_succ, List.set_cons_zero]
            go_wp2_with fail
            exact relyE_done _ rfl rfl (Ext.refl _) hI
          refine stepsF_cons ?_ ?_
          · intro listed vs W' hl hI hd hs hn hu hz ho9
            refine hold ?_
            obtain ⟨x0, x1, x2, x3, x4, x5, x6, x7, x8, x9, x10, x11, x12, x13, x14, x15, x16, x17, rfl⟩ := lenlit18 hl; clear hl
            simp only [factsL, atL, refV, List.getElem?_cons_succ, List.getElem?_cons_zero, List.getD_cons_succ, List.getD_cons_zero, RelL.one, RelL.any, RelL.blk, RelL.law, RLi0, ROwi, RTk, RBox, RPtr, RStd] at hd
            obtain ⟨rfl, rfl, -⟩ := hd
            refine held ?_
            simp only [putAll, Act.put, List.setIfInBounds_toArray, List.set_cons_succ, List.set_cons_zero]
            go_wp2_with fail
            exact relyE_done _ rfl rfl (Ext.refl _) hI
          refine stepsF_cons ?_ ?_
          · intro listed vs W' hl hI hd hs hn hu hz ho9
            refine hold ?_
            obtain ⟨x0, x1, x2, x3, x4, x5, x6, x7, x8, x9, x10, x11, x12, x13, x14, x15, x16, x17, rfl⟩ := lenlit18 hl; clear hl
            simp only [factsL, atL, refV, List.getElem?_cons_succ, List.getElem?_cons_zero, List.getD_cons_succ, List.getD_cons_zero, RelL.one, RelL.any, RelL.blk, RelL.law, RLi0, ROwi, RTk, RBox, RPtr, RStd] at hd
            obtain ⟨⟨g6, c6, rfl, h6⟩, rfl, -⟩ := hd
            refine held ?_
            simp only [putAll, Act.put, List.setIfInBounds_toArray, List.set_cons_succ, List.set_cons_zero]
            go_wp2_with (at_builtin; refine appKeep el_i64 rfl _ _ rfl _ Wz.heap.size g6 (gn1 - J) c6 (O.drop J) rfl h6 ob oo J oc (O.take J) rfl HTL.out (fun i hi => hI.cell (hcT i hi)) hI.sz (by unfold maxLen; omega) (by omega) ?_; intro g9 c9 w9 ho9 hB9 hgr hkeep; refine hold ?_)
            refine held ?_
            exact wpList_nil (relyE_store _ rfl ⟨_, _, rfl, ho9⟩ hB9.size ⟨fun _ _ h => h, fun _ _ h => h, fun _ _ ⟨g, e1, e2, e3⟩ => ⟨g, e1, e2, (hgr.block g (Array.getElem?_eq_some_iff.1 e3).1 (li0_ne e3 h6 (by omega))).trans e3⟩, fun _ _ h => h, fun _ _ h => h, fun _ _ h => h, fun _ _ _ => ⟨g6, c6, rfl, hkeep⟩, fun _ _ h => h, fun _ _ h => h, fun _ _ h => h, fun _ hk _ => absurd rfl hk, fun h _ _ => absurd (by decide) (hu 11 h), fun h _ _ => absurd (by decide) (hu 12 h), fun h _ _ => absurd (by decide) (hu 13 h), fun h _ _ => absurd (by decide) (hu 14 h), fun _ _ ⟨b, e1, e2, e3⟩ => ⟨b, e1, e2, e3.by hgr (e3.ne h6)⟩, fun h _ _ => absurd (by decide) (hu 16 h), fun h _ _ => absurd (by decide) (hu 17 h), trivial⟩ (Below.trans hI hB9))
          refine stepsF_cons ?_ ?_
          · intro listed vs W' hl hI hd hs hn hu hz ho9
            refine hold ?_
            obtain ⟨x0, x1, x2, x3, x4, x5, x6, x7, x8, x9, x10, x11, x12, x13, x14, x15, x16, x17, rfl⟩ := lenlit18 hl; clear hl
            simp only [factsL, atL, refV, List.getElem?_cons_succ, List.getElem?_cons_zero, List.getD_cons_succ, List.getD_cons_zero, RelL.one, RelL.any, RelL.blk, RelL.law, RLi0, ROwi, RTk, RBox, RPtr, RStd] at hd
            obtain ⟨rfl, rfl, ⟨g9, c9, rfl, h9⟩, -⟩ := hd
            refine held ?_
            simp only [putAll, Act.put, List.setIfInBounds_toArray, List.set_cons_succ, List.set_cons_zero]
            go_wp2_with fail
            refine (HTZ.out W' hI (some ⟨g9, 0, none⟩) (gn1 - J + J) c9 (h9.sl HWF.out)).mono ?_
            rintro e w4 ⟨sa4, sn4, sc4, ga4, gn4, gc4, rfl, hX4, hx4⟩
            go_wp2_with fail
            exact relyE_done (.tuple #[.agg #[.int .i64 X.host, .int .i64 X.round, .int .u64 X.head, .int .i64 X.sent, .int .i64 X.wait, .slice sa4 sn4 sc4, .slice ga4 gn4 gc4], .bool true]) rfl ⟨sa4, sn4, sc4, ga4, gn4, gc4, rfl, hX4⟩ hx4 (hI.trans hx4)
          refine stepsF_cons ?_ ?_
          · intro listed vs W' hl hI hd hs hn hu hz ho9
            refine hold ?_
            obtain ⟨x0, x1, x2, x3, x4, x5, x6, x7, x8, x9, x10, x11, x12, x13, x14, x15, x16, x17, rfl⟩ := lenlit18 hl; clear hl
            simp only [factsL, atL, refV, List.getElem?_cons_succ, List.getElem?_cons_zero, List.getD_cons_succ, List.getD_cons_zero, RelL.one, RelL.any, RelL.blk, RelL.law, RLi0, ROwi, RTk, RBox, RPtr, RStd] at hd
            obtain ⟨⟨sa4, sn4, sc4, ga4, gn4, gc4, rfl, hX4⟩, -⟩ := hd
            refine held ?_
            simp only [putAll, Act.put, List.setIfInBounds_toArray, List.set_cons_succ, List.set_cons_zero]
            go_wp2_with fail
            exact relyE_done _ rfl ⟨_, _, _, _, _, _, rfl, hX4⟩ (Ext.refl _) hI
          refine stepsF_cons ?_ ?_
          · intro listed vs W' hl hI hd hs hn hu hz ho9
            refine hold ?_
            obtain ⟨x0, x1, x2, x3, x4, x5, x6, x7, x8, x9, x10, x11, x12, x13, x14, x15, x16, x17, rfl⟩ := lenlit18 hl; clear hl
            simp only [factsL, atL, refV, List.getElem?_cons_succ, List.getElem?_cons_zero, List.getD_cons_succ, List.getD_cons_zero, RelL.one, RelL.any, RelL.blk, RelL.law, RLi0, ROwi, RTk, RBox, RPtr, RStd] at hd
            obtain ⟨⟨sa4, sn4, sc4, ga4, gn4, gc4, rfl, hX4⟩, -⟩ := hd
            refine held ?_
            simp only [putAll, Act.put, List.setIfInBounds_toArray, List.set_cons_succ, List.set_cons_zero]
            go_wp2_with fail
            exact relyE_done _ rfl ⟨_, _, _, _, _, _, rfl, hX4⟩ (Ext.refl _) hI
          refine stepsF_cons ?_ ?_
          · intro listed vs W' hl hI hd hs hn hu hz ho9
            refine hold ?_
            obtain ⟨x0, x1, x2, x3, x4, x5, x6, x7, x8, x9, x10, x11, x12, x13, x14, x15, x16, x17, rfl⟩ := lenlit18 hl; clear hl
            simp only [factsL, atL, refV, List.getElem?_cons_succ, List.getElem?_cons_zero, List.getD_cons_succ, List.getD_cons_zero, RelL.one, RelL.any, RelL.blk, RelL.law, RLi0, ROwi, RTk, RBox, RPtr, RStd] at hd
            obtain ⟨⟨sa4, sn4, sc4, ga4, gn4, gc4, rfl, hX4⟩, -⟩ := hd
            refine held ?_
            simp only [putAll, Act.put, List.setIfInBounds_toArray, List.set_cons_succ, List.set_cons_zero]
            go_wp2_with fail
            exact relyE_done _ rfl rfl (Ext.refl _) hI
          refine stepsF_cons ?_ ?_
          · intro listed vs W' hl hI hd hs hn hu hz ho9
            refine hold ?_
            obtain ⟨x0, x1, x2, x3, x4, x5, x6, x7, x8, x9, x10, x11, x12, x13, x14, x15, x16, x17, rfl⟩ := lenlit18 hl; clear hl
            refine held ?_
            simp only [putAll, Act.put, List.setIfInBounds_toArray, List.set_cons_succ, List.set_cons_zero]
            go_wp2_with fail
            exact relyE_done _ rfl ⟨_, rfl, hI.sz, .inl (Bk.new _ _ _)⟩ ((Ext.refl _).alloc _) (hI.alloc _)
          refine stepsF_cons ?_ ?_
          · intro listed vs W' hl hI hd hs hn hu hz ho9
            refine hold ?_
            obtain ⟨x0, x1, x2, x3, x4, x5, x6, x7, x8, x9, x10, x11, x12, x13, x14, x15, x16, x17, rfl⟩ := lenlit18 hl; clear hl
            simp only [factsL, atL, refV, List.getElem?_cons_succ, List.getElem?_cons_zero, List.getD_cons_succ, List.getD_cons_zero, RelL.one, RelL.any, RelL.blk, RelL.law, RLi0, ROwi, RTk, RBox, RPtr, RStd] at hd
            obtain ⟨⟨sa4, sn4, sc4, ga4, gn4, gc4, rfl, hX4⟩, ⟨b5, rfl, hb5, hs5⟩, -⟩ := hd
            refine held ?_
            simp only [putAll, Act.put, List.setIfInBounds_toArray, List.set_cons_succ, List.set_cons_zero]
            obtain ⟨u0, u1, u2, u3, u4, u5, u6, hs7⟩ := hs5.seven
            have y0 := hs7.c 0 _ rfl
            have y1 := hs7.c 1 _ rfl
            have y2 := hs7.c 2 _ rfl
            have y3 := hs7.c 3 _ rfl
            have y4 := hs7.c 4 _ rfl
            have y5 := hs7.c 5 _ rfl
            have y6 := hs7.c 6 _ rfl
            have fy := hs7.free
            go_wp2_with fail
            exact relyE_store (.bool true) rfl ⟨b5, _, _, _, _, _, _, rfl, hb5, Bk.set7 hs7 _ _ _ _ _ _ _, hs5.keep hX4 HAX.out _ _ _ _ _ _⟩ (by simp) ⟨fun _ _ h => h, fun _ _ h => h, fun _ _ ⟨g, e1, e2, e3⟩ => ⟨g, e1, e2, ((grown7 _ _ _ _ _ _ _ _ _).block g (Array.getElem?_eq_some_iff.1 e3).1 (hs5.ne (li0_ow e2 e3))).trans e3⟩, fun _ _ h => h, fun _ _ h => h, fun _ _ h => h, fun _ _ ⟨g, c, e1, e2⟩ => ⟨g, c, e1, e2.by (grown7 _ _ _ _ _ _ _ _ _) (hs5.ne e2)⟩, fun _ _ h => h, fun _ _ h => h, fun _ _ h => h, fun _ _ ⟨g, c, e1, e2⟩ => ⟨g, c, e1, e2.by (grown7 _ _ _ _ _ _ _ _ _) (hs5.ne e2)⟩, fun _ _ ⟨s1, s2, s3, s4, s5, s6, e1, e2⟩ => ⟨s1, s2, s3, s4, s5, s6, e1, hs5.keep e2 HAX.out _ _ _ _ _ _⟩, fun _ _ ⟨s1, s2, s3, s4, s5, s6, e1, e2⟩ => ⟨s1, s2, s3, s4, s5, s6, e1, hs5.keep e2 HAX.out _ _ _ _ _ _⟩, fun _ _ ⟨s1, s2, s3, s4, s5, s6, e1, e2⟩ => ⟨s1, s2, s3, s4, s5, s6, e1, hs5.keep e2 HAX.out _ _ _ _ _ _⟩, fun _ _ h => h, fun _ _ _ => ⟨b5, rfl, hb5, .inr ⟨_, _, _, _, _, _, Bk.set7 hs7 _ _ _ _ _ _ _⟩⟩, fun _ hk _ => absurd rfl hk, fun h _ _ => absurd (by decide) (hu 17 h), trivial⟩ (hI.set7 hb5 _ _ _ _ _ _ _)
          refine stepsF_cons ?_ ?_
          · intro listed vs W' hl hI hd hs hn hu hz ho9
            refine hold ?_
            obtain ⟨x0, x1, x2, x3, x4, x5, x6, x7, x8, x9, x10, x11, x12, x13, x14, x15, x16, x17, rfl⟩ := lenlit18 hl; clear hl
            simp only [factsL, atL, refV, List.getElem?_cons_succ, List.getElem?_cons_zero, List.getD_cons_succ, List.getD_cons_zero, RelL.one, RelL.any, RelL.blk, RelL.law, RLi0, ROwi, RTk, RBox, RPtr, RStd] at hd
            obtain ⟨rfl, -⟩ := hd
            refine held ?_
            simp only [putAll, Act.put, List.setIfInBounds_toArray, List.set_cons_succ, List.set_cons_zero]
            go_wp2_with fail
            exact relyE_done _ rfl rfl (Ext.refl _) hI
          exact trivial
        · intro listed vs W' hl hall hI hd hn
          obtain ⟨x0, x1, x2, x3, x4, x5, x6, x7, x8, x9, x10, x11, x12, x13, x14, x15, x16, x17, rfl⟩ := lenlit18 hl; clear hl
          simp only [List.length_cons, List.length_nil, List.range, List.range.loop, Nat.zero_add, Nat.reduceAdd, factsL, atL, refV, List.getElem?_cons_succ, List.getElem?_cons_zero, List.getD_cons_succ, List.getD_cons_zero, RelL.one, RelL.any, RelL.blk, RelL.law, RLi0, ROwi, RTk, RBox, RPtr, RStd] at hd
          obtain ⟨rfl, rfl, -, rfl, rfl, rfl, -, rfl, rfl, rfl, -, -, -, -, rfl, -, ⟨b6, sa4, sn4, sc4, ga4, gn4, gc4, rfl, hb6, hZ6, hX4⟩, rfl, -⟩ := hd
          simp only [putAll, Act.put, List.setIfInBounds_toArray, List.set_cons_succ, List.set_cons_zero]
          have hEz := hEw4.trans hI
          have hXb5 := hXb4.ext hI
          have hYb5 := hYb.ext hI
          have hX15 := hX14.ext hI
          have hY5 := hY4.ext hI
          clear p0 p1 p2 p3 p4 p5 p6 hcD hcT hXb4 hYb hX14 hY4 hB4
          have hAt : ∀ i, i < gn1 → (nthR X.got i).a = nth A (nth O i).toNat ∧ (nthR X.got i).lo = 10 * nth O i := fun i hi => by
            have h := ans_at HP.out HRi.out (i := i) (by rw [HLEN.out]; exact hi)
            rw [show X.got = ansU BB O by rw [← HXX.out]; rfl, h]
            refine ⟨?_, rfl⟩
            show nth BB.asked (nth O i).toNat = _
            rw [HP0.out.2.2.1]
          have HAT := Lib.hid hAt
          clear hAt
          obtain ⟨gb, gf, rfl, hcg⟩ := hX15.rw.at hm1
          have y6 := hXb5.c 6 _ rfl
          go_wp2_with fail
          clear y6
          go_loopw [9, 118] (fun u i wr => ∃ k2 : Nat, k2 ≤ gn1 ∧ i = .int .i64 (k2 : Int) ∧ u = .bool true ∧ Ext W' wr) (fun _ i _ => gn1 - (intOf i).toNat)
          case atStart => exact ⟨0, by omega, rfl, rfl, Ext.refl W'⟩
          case round =>
            obtain ⟨k2, hk2, rfl, rfl, hEq⟩ := hrel
            by_cases hlt : k2 < gn1
            · have d0 := (hI.trans hEq).cell (hco k2 hlt)
              have hrg := HOM.out (nth O k2) (nth_mem (by rw [HLEN.out]; exact hlt))
              have hat := HAT.out k2 hlt
              obtain ⟨r0, r4⟩ := cells_g (rangeAt_ext (hcg k2 hlt) hEq)
              rw [hat.1] at r0
              rw [hat.2] at r4
              obtain ⟨j, hj⟩ : ∃ j : Nat, nth O k2 = (j : Int) := ⟨(nth O k2).toNat, by omega⟩
              rw [hj] at d0 r0 r4 hrg
              rw [Int.toNat_natCast] at r0
              have hjk : j < k := by omega
              have e1 := (cells_rq (rangeAt_ext (hcl j hjk) ((hE4.trans hI).trans hEq))).2.1
              rw [nthR_rqs BB (l := A) (i := j) (by rw [← HLM.out]; exact hjk), sz_rq] at e1
              rw [show (rq1 BB (nth A j)).a = nth A j from rfl] at e1
              rw [sz_rp] at r0 r4
              generalize nth A j = aj at *
              have y6 := (hXb5.ext hEq).c 6 _ rfl
              have l1 := (hXb5.ext hEq).lt
              have l2 := lt_of_cell r0
              have l3 := lt_of_cell e1
              simp only at l2 l3
              have hw1 : IntKind.i64.wrap (10 * (j : Int)) = 10 * (j : Int) := IntWalk.i64_in _ (by omega)
              have hjk2 : (j : Int) < (k : Int) := by omega
              clear hj hat hrg hcl hcg hco
              go_upto_region 25 with fail
              clear d0
              have hg := @grow_cell
              refine region_tail 27 (by kernel_rfl) (by kernel_rfl) ?_
              simp only [List.take_succ_cons, List.take_zero, List.drop_succ_cons, List.drop_zero]
              repeat (go_big_quiet_step (fail))
              refine wpQuiet_nil ?_
              intro w8 hx8
              clear hg
              go_wp2_with fail
              exact ⟨⟨k2 + 1, by omega, by go_num, rfl, hEq.trans hx8⟩, by simp [intOf]; omega⟩
            · obtain rfl : k2 = gn1 := by omega
              have hXc := hXb5.ext hEq
              have hYc := hYb5.ext hEq
              have hZc := hZ6.ext hEq
              have p0 := hXc.c 0 _ rfl
              have p1 := hXc.c 1 _ rfl
              have p2 := hXc.c 2 _ rfl
              have p3 := hXc.c 3 _ rfl
              have p4 := hXc.c 4 _ rfl
              have p5 := hXc.c 5 _ rfl
              have p6 := hXc.c 6 _ rfl
              have y0 := hYc.c 0 _ rfl
              have y1 := hYc.c 1 _ rfl
              have y2 := hYc.c 2 _ rfl
              have y3 := hYc.c 3 _ rfl
              have y4 := hYc.c 4 _ rfl
              have y5 := hYc.c 5 _ rfl
              have y6 := hYc.c 6 _ rfl
              have hs1 := rsame13_any X sa1 sn1 sc1 (some ⟨gb, gf, none⟩) k2 gc1 X sa2 sn2 sc2 ga2 gn2 gc2 wr (hX15.ext hEq) (hY5.ext hEq)
              rw [decide_eq_true rfl] at hs1
              go_wp2_with fail
              refine hs1.mono ?_
              clear hs1 p0 p1 p2 p3 p4 p5 p6 y0 y1 y2 y3 y4 y5 y6
              rintro _ w8 ⟨rfl, hx8⟩
              have hXd := hXc.ext hx8
              have hZd := hZc.ext hx8
              have p0 := hXd.c 0 _ rfl
              have p1 := hXd.c 1 _ rfl
              have p2 := hXd.c 2 _ rfl
              have p3 := hXd.c 3 _ rfl
              have p4 := hXd.c 4 _ rfl
              have p5 := hXd.c 5 _ rfl
              have p6 := hXd.c 6 _ rfl
              have z0 := hZd.c 0 _ rfl
              have z1 := hZd.c 1 _ rfl
              have z2 := hZd.c 2 _ rfl
              have z3 := hZd.c 3 _ rfl
              have z4 := hZd.c 4 _ rfl
              have z5 := hZd.c 5 _ rfl
              have z6 := hZd.c 6 _ rfl
              have hs2 := rsame13_any X sa1 sn1 sc1 (some ⟨gb, gf, none⟩) k2 gc1 X sa4 sn4 sc4 ga4 gn4 gc4 w8 ((hX15.ext hEq).ext hx8) ((hX4.ext hEq).ext hx8)
              rw [decide_eq_true rfl] at hs2
              go_wp2_with fail
              refine hs2.mono ?_
              clear hs2
              rintro _ w9 ⟨rfl, hx9⟩
              go_wp2_with fail
              go_ret
              exact ⟨rfl, ((hEz.trans hEq).trans hx8).trans hx9⟩
end Go.Proofs.YtdmfdimhjemngaaDoor
