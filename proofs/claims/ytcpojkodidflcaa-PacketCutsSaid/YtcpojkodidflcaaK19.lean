/-
  PacketCuts, walked.
-/
import Derived.Test.YtcpojkodidflcaaK14
namespace Go.Proofs.Ytcpojkodidflcaa
open Go.RowKit Go.Sort Go.Shelf
set_option linter.unusedSimpArgs false
set_option linter.unusedVariables false
set_option maxRecDepth 100000

/-- Bytes that are read as neither kind when they are cut or have more behind them. -/
structure Packet (X : List Int) (L : Nat) : Prop where
  len : X.length = L
  pos : 0 < L
  top : L ≤ 47
  cut : ∀ j, j < L → lreq (X.take j) = none ∧ lrep (X.take j) = none
  more : ∀ t, t ≠ [] → lreq (X ++ t) = none ∧ lrep (X ++ t) = none

theorem packet_req {h a r n : Int} (hw : ReqW h a r n) (hb : reqB h a r = true) : Packet (pkt 1 (reqInts h a r n)) (pkt 1 (reqInts h a r n)).length where
  len := rfl
  pos := by have := pkt_req_size (wf_u64 hw.n) hb; omega
  top := by have := pkt_req_size (wf_u64 hw.n) hb; omega
  cut := fun j hj => ⟨by unfold lreq; rw [lints_cut (l := reqInts h a r n) hw.ints (by simp [reqInts]) hj]; rfl, by unfold lrep; rw [lints_other (by decide)]; rfl⟩
  more := fun t ht => ⟨by unfold lreq; rw [lints_more (l := reqInts h a r n) hw.ints (by simp [reqInts]) ht]; rfl, by unfold lrep; rw [lints_other' (by decide)]; rfl⟩
theorem packet_rep {q : Rep} (hw : q.W) (hb : q.ok = true) : Packet (pkt 2 q.ints) (pkt 2 q.ints).length where
  len := rfl
  pos := by have := pkt_rep_size (wf_u64 hw.q.n) hb; omega
  top := by have := pkt_rep_size (wf_u64 hw.q.n) hb; omega
  cut := fun j hj => ⟨by unfold lreq; rw [lints_other (by decide)]; rfl, by unfold lrep; rw [lints_cut (l := q.ints) (RepW.ints hw) (by simp [Rep.ints, repInts]) hj]; rfl⟩
  more := fun t ht => ⟨by unfold lreq; rw [lints_other' (by decide)]; rfl, by unfold lrep; rw [lints_more (l := q.ints) (RepW.ints hw) (by simp [Rep.ints, repInts]) ht]; rfl⟩

theorem long_req {m : Nat} {ys : List Int} (hX : 0 < m → lreq ys = none) (a1 : Option Addr) (n1 c1 : Nat) (w : World) (h1 : Sl .u8 w a1 n1 c1 ys) (hn1 : n1 ≤ 1000000000) :
    Calls Try.prog 14 #[.slice a1 n1 c1] w fun e w' => ∃ h a r n i : Int, e = .returned (.tuple #[.agg #[.int .i64 h, .int .i64 a, .int .i64 r, .int .u64 n], .int .i64 i]) ∧ (0 < m → i = 7) ∧ Ext w w' :=
  (getRequest_any a1 n1 c1 ys w h1 hn1).mono fun e w' ⟨h, hE⟩ => ⟨_, _, _, _, _, h, fun hm => by rw [hX hm]; rfl, hE⟩
theorem long_rep {m : Nat} {ys : List Int} (hX : 0 < m → lrep ys = none) (a1 : Option Addr) (n1 c1 : Nat) (w : World) (h1 : Sl .u8 w a1 n1 c1 ys) (hn1 : n1 ≤ 1000000000) :
    Calls Try.prog 18 #[.slice a1 n1 c1] w fun e w' => ∃ a h r n lo hi k t c s i : Int, e = .returned (.tuple #[.agg #[.int .i64 a, .int .i64 h, .int .i64 r, .int .u64 n, .int .i64 lo, .int .i64 hi, .int .i64 k, .int .i64 t, .int .i64 c, .int .i64 s], .int .i64 i]) ∧ (0 < m → i = 7) ∧ Ext w w' :=
  (getReply_any a1 n1 c1 ys w h1 hn1).mono fun e w' ⟨h, hE⟩ => ⟨_, _, _, _, _, _, _, _, _, _, _, h, fun hm => by rw [hX hm]; rfl, hE⟩

set_option maxHeartbeats 4000000 in
theorem pcuts_any (h a r n a1 h1 r1 n1 lo hi k t c s cut : Int) (a2 : Option Addr) (n2 c2 : Nat) (xs : List Int) (w : World) (hw : ReqW h a r n) (hv : RepW a1 h1 r1 n1 lo hi k t c s) (hk : (Lit.int .u8 cut).wf = true) (hs : Sl .u8 w a2 n2 c2 xs) :
    Calls Try.prog 7 #[.agg #[.int .i64 h, .int .i64 a, .int .i64 r, .int .u64 n], .agg #[.int .i64 a1, .int .i64 h1, .int .i64 r1, .int .u64 n1, .int .i64 lo, .int .i64 hi, .int .i64 k, .int .i64 t, .int .i64 c, .int .i64 s], .int .u8 cut, .slice a2 n2 c2] w fun e w' => e = .returned (.bool true) ∧ Ext w w' := by
  have b1 := hs.bd
  have hV : Rep.W ⟨a1, h1, r1, n1, lo, hi, k, t, c, s⟩ := hv
  go_enter Try.func7, Try.ntmps7
  go_wp2_with fail
  have hE0 : Ext w ((w.alloc (.cells #[.int .i64 h, .int .i64 a, .int .i64 r, .int .u64 n] 24)).alloc (.cells #[.int .i64 a1, .int .i64 h1, .int .i64 r1, .int .u64 n1, .int .i64 lo, .int .i64 hi, .int .i64 k, .int .i64 t, .int .i64 c, .int .i64 s] 30)) := ((Ext.refl w).alloc _).alloc _
  have BR : ReqBlk ((w.alloc (.cells #[.int .i64 h, .int .i64 a, .int .i64 r, .int .u64 n] 24)).alloc (.cells #[.int .i64 a1, .int .i64 h1, .int .i64 r1, .int .u64 n1, .int .i64 lo, .int .i64 hi, .int .i64 k, .int .i64 t, .int .i64 c, .int .i64 s] 30)) w.heap.size h a r n := alloc_keep (alloc_at rfl)
  have BP : RepBlk ((w.alloc (.cells #[.int .i64 h, .int .i64 a, .int .i64 r, .int .u64 n] 24)).alloc (.cells #[.int .i64 a1, .int .i64 h1, .int .i64 r1, .int .u64 n1, .int .i64 lo, .int .i64 hi, .int .i64 k, .int .i64 t, .int .i64 c, .int .i64 s] 30)) (w.heap.size + 1) ⟨a1, h1, r1, n1, lo, hi, k, t, c, s⟩ := alloc_at (by simp)
  generalize ((w.alloc (.cells #[.int .i64 h, .int .i64 a, .int .i64 r, .int .u64 n] 24)).alloc (.cells #[.int .i64 a1, .int .i64 h1, .int .i64 r1, .int .u64 n1, .int .i64 lo, .int .i64 hi, .int .i64 k, .int .i64 t, .int .i64 c, .int .i64 s] 30)) = W0 at *
  generalize w.heap.size + 1 = bP at *
  generalize w.heap.size = bR at *
  have gr0 := cell_of_block BR 0 (.int .i64 h) rfl
  have gr1 := cell_of_block BR 1 (.int .i64 a) rfl
  have gr2 := cell_of_block BR 2 (.int .i64 r) rfl
  have gr3 := cell_of_block BR 3 (.int .u64 n) rfl
  have gp0 := cell_of_block BP 0 (.int .i64 a1) rfl
  have gp1 := cell_of_block BP 1 (.int .i64 h1) rfl
  have gp2 := cell_of_block BP 2 (.int .i64 r1) rfl
  have gp3 := cell_of_block BP 3 (.int .u64 n1) rfl
  have gp4 := cell_of_block BP 4 (.int .i64 lo) rfl
  have gp5 := cell_of_block BP 5 (.int .i64 hi) rfl
  have gp6 := cell_of_block BP 6 (.int .i64 k) rfl
  have gp7 := cell_of_block BP 7 (.int .i64 t) rfl
  have gp8 := cell_of_block BP 8 (.int .i64 c) rfl
  have gp9 := cell_of_block BP 9 (.int .i64 s) rfl
  have lR := lt_of_block BR
  have lP := lt_of_block BP
  clear BR BP
  replace hs := hs.ext hE0
  refine (head_any _).mono ?_
  rintro e w1 ⟨rfl, hE1⟩
  obtain ⟨hc1, hf1⟩ := hE1.rules
  rcases hb : reqB h a r with _ | _
  · have HB := Lib.hid hb
    clear hb
    go_wp2_with fail
    refine (rrequest_any h a r n _).mono ?_
    rintro e w2 ⟨rfl, hE2⟩
    rw [HB.out]
    replace hE1 := hE1.trans hE2
    go_wp2
    go_ret
    exact ⟨rfl, hE0.trans hE1⟩
  · have HB := Lib.hid hb
    clear hb
    go_wp2_with fail
    refine (rrequest_any h a r n _).mono ?_
    rintro e w2 ⟨rfl, hE2⟩
    rw [HB.out]
    replace hE1 := hE1.trans hE2
    clear hE2 hc1 hf1
    obtain ⟨hc1, hf1⟩ := hE1.rules
    rcases hb' : repB a1 h1 r1 lo hi k t c s with _ | _
    · have HB' := Lib.hid hb'
      clear hb'
      go_wp2_with fail
      refine (rreply_any a1 h1 r1 n1 lo hi k t c s _).mono ?_
      rintro e w3 ⟨rfl, hE2⟩
      rw [HB'.out]
      replace hE1 := hE1.trans hE2
      go_wp2
      go_ret
      exact ⟨rfl, hE0.trans hE1⟩
    · have HB' : Hid (Rep.ok ⟨a1, h1, r1, n1, lo, hi, k, t, c, s⟩ = true) := hb'
      have HB2 := Lib.hid hb'
      clear hb'
      go_wp2_with fail
      refine (rreply_any a1 h1 r1 n1 lo hi k t c s _).mono ?_
      rintro e w3 ⟨rfl, hE2⟩
      rw [HB2.out]
      replace hE1 := hE1.trans hE2
      clear hE2 hc1 hf1
      obtain ⟨hc1, hf1⟩ := hE1.rules
      by_cases hn : n2 ≤ 50
      · have hd : decide ((50 : Int) < n2) = false := by simp; omega
        go_wp2_with fail
        refine (putRequest_yes h a r n hw HB.out _).mono ?_
        rintro e w4 ⟨x1, y1, rfl, s1, hE2⟩
        replace hE1 := hE1.trans hE2
        clear hE2 hc1 hf1
        obtain ⟨hc1, hf1⟩ := hE1.rules
        go_wp2_with fail
        refine (putReply_yes ⟨a1, h1, r1, n1, lo, hi, k, t, c, s⟩ hV HB'.out _).mono ?_
        rintro e w5 ⟨x2, y2, rfl, s2, hE2⟩
        replace s1 := s1.ext hE2
        replace hE1 := hE1.trans hE2
        clear hE2 hc1 hf1
        obtain ⟨hc1, hf1⟩ := hE1.rules
        have P1 := packet_req hw HB.out
        have P2 := packet_rep hV HB'.out
        generalize (pkt 1 (reqInts h a r n)).length = L1 at *
        generalize (pkt 2 (Rep.ints ⟨a1, h1, r1, n1, lo, hi, k, t, c, s⟩)).length = L2 at *
        generalize pkt 1 (reqInts h a r n) = X1 at *
        generalize pkt 2 (Rep.ints ⟨a1, h1, r1, n1, lo, hi, k, t, c, s⟩) = X2 at *
        have p1 := P1.pos
        have p2 := P2.pos
        have p1' := P1.top
        have p2' := P2.top
        obtain ⟨cu, rfl⟩ : ∃ u : Nat, cut = (u : Int) := ⟨cut.toNat, by have := wf_u8 hk; omega⟩
        have hm1 : (cu : Int).tmod (L1 : Int) = ((cu % L1 : Nat) : Int) := rfl
        have hm2 : (cu : Int).tmod (L2 : Int) = ((cu % L2 : Nat) : Int) := rfl
        have hj1 := Nat.mod_lt cu p1
        have hj2 := Nat.mod_lt cu p2
        have hcu := wf_u8 hk
        generalize cu % L1 = j1 at *
        generalize cu % L2 = j2 at *
        have hj1' : (j1 : Int) < L1 := by omega
        have hj2' : (j2 : Int) < L2 := by omega
        have hb1 := s1.bd
        have hb2 := s2.bd
        obtain ⟨b3, o3, rfl, -⟩ := s1.at (by omega)
        obtain ⟨b4, o4, rfl, -⟩ := s2.at (by omega)
        replace hs := hs.ext hE1
        go_wp2_with fail
        have BX : (w5.alloc (.cells #[.slice (some ⟨b3, o3, none⟩) L1 y1, .slice (some ⟨b4, o4, none⟩) L2 y2] 31)).heap[w5.heap.size]? = some (.cells #[.slice (some ⟨b3, o3, none⟩) L1 y1, .slice (some ⟨b4, o4, none⟩) L2 y2] 31 (0, 0)) := World.alloc_heap_new w5 _
        have hE2 : Ext w5 (w5.alloc (.cells #[.slice (some ⟨b3, o3, none⟩) L1 y1, .slice (some ⟨b4, o4, none⟩) L2 y2] 31)) := (Ext.refl w5).alloc _
        replace s1 := s1.ext hE2
        replace s2 := s2.ext hE2
        replace hs := hs.ext hE2
        replace hE1 := hE1.trans hE2
        clear hE2 hc1 hf1
        clear gr0 gr1 gr2 gr3 gp0 gp1 gp2 gp3 gp4 gp5 gp6 gp7 gp8 gp9 lR lP
        generalize (w5.alloc (.cells #[.slice (some ⟨b3, o3, none⟩) L1 y1, .slice (some ⟨b4, o4, none⟩) L2 y2] 31)) = V0 at *
        generalize w5.heap.size = bX at *
        refine wp_loop_rounds 3 ?_
        rcases Nat.eq_zero_or_pos n2 with pz | pz
        · have hz0 : decide ((0 : Int) < n2) = false := by simp; omega
          have hz1 : ¬ (0 < n2) := by omega
          clear pz
          rw [rounds_succ]
          have gX0 := cell_of_block BX 0 (.slice (some ⟨b3, o3, none⟩) L1 y1) rfl
          have gX1 := cell_of_block BX 1 (.slice (some ⟨b4, o4, none⟩) L2 y2) rfl
          have lX := lt_of_block BX
          have hn0 : OwI .u8 5 V0.heap.size (V0.alloc (.cells #[] 5)) (some ⟨V0.heap.size, 0, none⟩) 0 0 [] := OwI.lit .u8 5 V0 [] (Nat.le_refl _) (by simp [maxLen]) #[] rfl
          have sc := (s1.take (m := j1) (by omega)).ext ((Ext.refl V0).alloc (.cells #[] 5))
          go_wp2_with (at_builtin; refine appA el_u8 rfl _ _ rfl _ V0.heap.size _ 0 0 [] rfl hn0 _ _ _ (X1.take j1) rfl sc (by simp) (by unfold maxLen; omega) (by omega) ?_; refine hold ?_)
          refine held ?_
          intro g6 c6 u16 ho6 hB6
          have hE6 : Ext V0 u16 := Below.trans ((Ext.refl V0).alloc _) hB6
          have sS := ho6.sl (fun x hx => s1.wf x (List.mem_of_mem_take (by simpa using hx)))
          try simp only [Nat.zero_add, List.nil_append] at sS
          clear hn0 sc ho6 hB6 gX0 gX1 lX
          replace s1 := s1.ext hE6
          replace s2 := s2.ext hE6
          replace hs := hs.ext hE6
          replace BX := ((hE6).block _ (lt_of_block BX)).trans BX
          replace hE1 := hE1.trans hE6
          clear hE6
          go_wp2_with fail
          refine (getRequest_no (P1.cut j1 hj1).1 _ _ _ _ sS (by omega)).mono ?_
          rintro e u17 ⟨rfl, hE7⟩
          replace s1 := s1.ext hE7
          replace s2 := s2.ext hE7
          replace hs := hs.ext hE7
          replace sS := sS.ext hE7
          replace BX := ((hE7).block _ (lt_of_block BX)).trans BX
          replace hE1 := hE1.trans hE7
          clear hE7
          have hE2 : Ext u17 (u17.alloc (.cells #[.int .i64 0, .int .i64 0, .int .i64 0, .int .u64 0] 24)) := (Ext.refl u17).alloc _
          replace s1 := s1.ext hE2
          replace s2 := s2.ext hE2
          replace hs := hs.ext hE2
          replace sS := sS.ext hE2
          replace BX := ((hE2).block _ (lt_of_block BX)).trans BX
          replace hE1 := hE1.trans hE2
          clear hE2
          go_wp2_with fail
          generalize (u17.alloc (.cells #[.int .i64 0, .int .i64 0, .int .i64 0, .int .u64 0] 24)) = v17 at *
          generalize u17.heap.size = c17 at *
          refine (getReply_no (P1.cut j1 hj1).2 _ _ _ _ sS (by omega)).mono ?_
          rintro e u18 ⟨rfl, hE7⟩
          replace s1 := s1.ext hE7
          replace s2 := s2.ext hE7
          replace hs := hs.ext hE7
          replace BX := ((hE7).block _ (lt_of_block BX)).trans BX
          replace hE1 := hE1.trans hE7
          clear hE7 sS
          have hE2 : Ext u18 (u18.alloc (.cells #[.int .i64 0, .int .i64 0, .int .i64 0, .int .u64 0, .int .i64 0, .int .i64 0, .int .i64 0, .int .i64 0, .int .i64 0, .int .i64 0] 30)) := (Ext.refl u18).alloc _
          replace s1 := s1.ext hE2
          replace s2 := s2.ext hE2
          replace hs := hs.ext hE2
          replace BX := ((hE2).block _ (lt_of_block BX)).trans BX
          replace hE1 := hE1.trans hE2
          clear hE2
          go_upto_region 14 with fail
          generalize (u18.alloc (.cells #[.int .i64 0, .int .i64 0, .int .i64 0, .int .u64 0, .int .i64 0, .int .i64 0, .int .i64 0, .int .i64 0, .int .i64 0, .int .i64 0] 30)) = v18 at *
          generalize u18.heap.size = c18 at *
          have hn0 : OwI .u8 5 v18.heap.size (v18.alloc (.cells #[] 5)) (some ⟨v18.heap.size, 0, none⟩) 0 0 [] := OwI.lit .u8 5 v18 [] (Nat.le_refl _) (by simp [maxLen]) #[] rfl
          have sc := s1.ext ((Ext.refl v18).alloc (.cells #[] 5))
          go_wp2_with (at_builtin; refine appA el_u8 rfl _ _ rfl _ v18.heap.size _ 0 0 [] rfl hn0 _ _ _ X1 rfl sc (by simp) (by unfold maxLen; omega) (by omega) ?_; refine hold ?_)
          refine held ?_
          intro g6 c6 u19 ho6 hB6
          have hE6 : Ext v18 u19 := Below.trans ((Ext.refl v18).alloc _) hB6
          have hz6 : v18.heap.size ≤ u19.heap.size := hE6.sz
          have hs9 := hs.ext hE6
          clear hn0 sc hB6
          go_wp2_with (at_builtin; refine appA el_u8 rfl _ _ rfl _ v18.heap.size _ _ _ _ rfl ho6 _ _ _ xs rfl hs9 hz6 (by unfold maxLen; omega) (by omega) ?_; refine hold ?_)
          refine held ?_
          intro g7 c7 u110 ho7 hB7
          have hE7 : Ext v18 u110 := Below.trans hE6 hB7
          try simp only [Nat.zero_add, List.nil_append] at ho7
          have sS := ho7.sl (fun x hx => (List.mem_append.1 hx).elim (s1.wf x) (hs.wf x))
          clear ho6 ho7 hE6 hz6 hs9 hB7
          replace s1 := s1.ext hE7
          replace s2 := s2.ext hE7
          replace hs := hs.ext hE7
          replace BX := ((hE7).block _ (lt_of_block BX)).trans BX
          replace hE1 := hE1.trans hE7
          clear hE7
          go_wp2_with fail
          have hmore : 0 < n2 → lreq (X1 ++ xs) = none ∧ lrep (X1 ++ xs) = none := fun hz => P1.more xs (fun hx => by have := hs.hlen; rw [hx] at this; simp at this; omega)
          have HM := Lib.hid hmore
          clear hmore
          refine (long_req (fun hz => (HM.out hz).1) _ _ _ _ sS (by omega)).mono ?_
          rintro e u111 ⟨lh, la, lr, ln, i1, rfl, hi1, hE7⟩
          try clear hi1
          replace s1 := s1.ext hE7
          replace s2 := s2.ext hE7
          replace hs := hs.ext hE7
          replace sS := sS.ext hE7
          replace BX := ((hE7).block _ (lt_of_block BX)).trans BX
          replace hE1 := hE1.trans hE7
          clear hE7
          have hE2 : Ext u111 (u111.alloc (.cells #[.int .i64 lh, .int .i64 la, .int .i64 lr, .int .u64 ln] 24)) := (Ext.refl u111).alloc _
          replace s1 := s1.ext hE2
          replace s2 := s2.ext hE2
          replace hs := hs.ext hE2
          replace sS := sS.ext hE2
          replace BX := ((hE2).block _ (lt_of_block BX)).trans BX
          replace hE1 := hE1.trans hE2
          clear hE2
          go_wp2_with fail
          generalize (u111.alloc (.cells #[.int .i64 lh, .int .i64 la, .int .i64 lr, .int .u64 ln] 24)) = v111 at *
          generalize u111.heap.size = c111 at *
          refine (long_rep (fun hz => (HM.out hz).2) _ _ _ _ sS (by omega)).mono ?_
          rintro e u112 ⟨m0, m1, m2, m3, m4, m5, m6, m7, m8, m9, i2, rfl, hi2, hE7⟩
          try clear hi2
          replace s1 := s1.ext hE7
          replace s2 := s2.ext hE7
          replace hs := hs.ext hE7
          replace BX := ((hE7).block _ (lt_of_block BX)).trans BX
          replace hE1 := hE1.trans hE7
          clear hE7 sS HM
          have hE2 : Ext u112 (u112.alloc (.cells #[.int .i64 m0, .int .i64 m1, .int .i64 m2, .int .u64 m3, .int .i64 m4, .int .i64 m5, .int .i64 m6, .int .i64 m7, .int .i64 m8, .int .i64 m9] 30)) := (Ext.refl u112).alloc _
          replace s1 := s1.ext hE2
          replace s2 := s2.ext hE2
          replace hs := hs.ext hE2
          replace BX := ((hE2).block _ (lt_of_block BX)).trans BX
          replace hE1 := hE1.trans hE2
          clear hE2
          go_wp2_with fail
          generalize (u112.alloc (.cells #[.int .i64 m0, .int .i64 m1, .int .i64 m2, .int .u64 m3, .int .i64 m4, .int .i64 m5, .int .i64 m6, .int .i64 m7, .int .i64 m8, .int .i64 m9] 30)) = v112 at *
          generalize u112.heap.size = c112 at *
          rw [rounds_succ]
          have gX0 := cell_of_block BX 0 (.slice (some ⟨b3, o3, none⟩) L1 y1) rfl
          have gX1 := cell_of_block BX 1 (.slice (some ⟨b4, o4, none⟩) L2 y2) rfl
          have lX := lt_of_block BX
          have hn0 : OwI .u8 5 v112.heap.size (v112.alloc (.cells #[] 5)) (some ⟨v112.heap.size, 0, none⟩) 0 0 [] := OwI.lit .u8 5 v112 [] (Nat.le_refl _) (by simp [maxLen]) #[] rfl
          have sc := (s2.take (m := j2) (by omega)).ext ((Ext.refl v112).alloc (.cells #[] 5))
          go_wp2_with (at_builtin; refine appA el_u8 rfl _ _ rfl _ v112.heap.size _ 0 0 [] rfl hn0 _ _ _ (X2.take j2) rfl sc (by simp) (by unfold maxLen; omega) (by omega) ?_; refine hold ?_)
          refine held ?_
          intro g6 c6 u26 ho6 hB6
          have hE6 : Ext v112 u26 := Below.trans ((Ext.refl v112).alloc _) hB6
          have sS := ho6.sl (fun x hx => s2.wf x (List.mem_of_mem_take (by simpa using hx)))
          try simp only [Nat.zero_add, List.nil_append] at sS
          clear hn0 sc ho6 hB6 gX0 gX1 lX
          replace s1 := s1.ext hE6
          replace s2 := s2.ext hE6
          replace hs := hs.ext hE6
          replace BX := ((hE6).block _ (lt_of_block BX)).trans BX
          replace hE1 := hE1.trans hE6
          clear hE6
          go_wp2_with fail
          refine (getRequest_no (P2.cut j2 hj2).1 _ _ _ _ sS (by omega)).mono ?_
          rintro e u27 ⟨rfl, hE7⟩
          replace s1 := s1.ext hE7
          replace s2 := s2.ext hE7
          replace hs := hs.ext hE7
          replace sS := sS.ext hE7
          replace BX := ((hE7).block _ (lt_of_block BX)).trans BX
          replace hE1 := hE1.trans hE7
          clear hE7
          have hE2 : Ext u27 (u27.alloc (.cells #[.int .i64 0, .int .i64 0, .int .i64 0, .int .u64 0] 24)) := (Ext.refl u27).alloc _
          replace s1 := s1.ext hE2
          replace s2 := s2.ext hE2
          replace hs := hs.ext hE2
          replace sS := sS.ext hE2
          replace BX := ((hE2).block _ (lt_of_block BX)).trans BX
          replace hE1 := hE1.trans hE2
          clear hE2
          go_wp2_with fail
          generalize (u27.alloc (.cells #[.int .i64 0, .int .i64 0, .int .i64 0, .int .u64 0] 24)) = v27 at *
          generalize u27.heap.size = c27 at *
          refine (getReply_no (P2.cut j2 hj2).2 _ _ _ _ sS (by omega)).mono ?_
          rintro e u28 ⟨rfl, hE7⟩
          replace s1 := s1.ext hE7
          replace s2 := s2.ext hE7
          replace hs := hs.ext hE7
          replace BX := ((hE7).block _ (lt_of_block BX)).trans BX
          replace hE1 := hE1.trans hE7
          clear hE7 sS
          have hE2 : Ext u28 (u28.alloc (.cells #[.int .i64 0, .int .i64 0, .int .i64 0, .int .u64 0, .int .i64 0, .int .i64 0, .int .i64 0, .int .i64 0, .int .i64 0, .int .i64 0] 30)) := (Ext.refl u28).alloc _
          replace s1 := s1.ext hE2
          replace s2 := s2.ext hE2
          replace hs := hs.ext hE2
          replace BX := ((hE2).block _ (lt_of_block BX)).trans BX
          replace hE1 := hE1.trans hE2
          clear hE2
          go_upto_region 14 with fail
          generalize (u28.alloc (.cells #[.int .i64 0, .int .i64 0, .int .i64 0, .int .u64 0, .int .i64 0, .int .i64 0, .int .i64 0, .int .i64 0, .int .i64 0, .int .i64 0] 30)) = v28 at *
          generalize u28.heap.size = c28 at *
          have hn0 : OwI .u8 5 v28.heap.size (v28.alloc (.cells #[] 5)) (some ⟨v28.heap.size, 0, none⟩) 0 0 [] := OwI.lit .u8 5 v28 [] (Nat.le_refl _) (by simp [maxLen]) #[] rfl
          have sc := s2.ext ((Ext.refl v28).alloc (.cells #[] 5))
          go_wp2_with (at_builtin; refine appA el_u8 rfl _ _ rfl _ v28.heap.size _ 0 0 [] rfl hn0 _ _ _ X2 rfl sc (by simp) (by unfold maxLen; omega) (by omega) ?_; refine hold ?_)
          refine held ?_
          intro g6 c6 u29 ho6 hB6
          have hE6 : Ext v28 u29 := Below.trans ((Ext.refl v28).alloc _) hB6
          have hz6 : v28.heap.size ≤ u29.heap.size := hE6.sz
          have hs9 := hs.ext hE6
          clear hn0 sc hB6
          go_wp2_with (at_builtin; refine appA el_u8 rfl _ _ rfl _ v28.heap.size _ _ _ _ rfl ho6 _ _ _ xs rfl hs9 hz6 (by unfold maxLen; omega) (by omega) ?_; refine hold ?_)
          refine held ?_
          intro g7 c7 u210 ho7 hB7
          have hE7 : Ext v28 u210 := Below.trans hE6 hB7
          try simp only [Nat.zero_add, List.nil_append] at ho7
          have sS := ho7.sl (fun x hx => (List.mem_append.1 hx).elim (s2.wf x) (hs.wf x))
          clear ho6 ho7 hE6 hz6 hs9 hB7
          replace s1 := s1.ext hE7
          replace s2 := s2.ext hE7
          replace hs := hs.ext hE7
          replace BX := ((hE7).block _ (lt_of_block BX)).trans BX
          replace hE1 := hE1.trans hE7
          clear hE7
          go_wp2_with fail
          have hmore : 0 < n2 → lreq (X2 ++ xs) = none ∧ lrep (X2 ++ xs) = none := fun hz => P2.more xs (fun hx => by have := hs.hlen; rw [hx] at this; simp at this; omega)
          have HM := Lib.hid hmore
          clear hmore
          refine (long_req (fun hz => (HM.out hz).1) _ _ _ _ sS (by omega)).mono ?_
          rintro e u211 ⟨lh, la, lr, ln, i1, rfl, hi1, hE7⟩
          try clear hi1
          replace s1 := s1.ext hE7
          replace s2 := s2.ext hE7
          replace hs := hs.ext hE7
          replace sS := sS.ext hE7
          replace BX := ((hE7).block _ (lt_of_block BX)).trans BX
          replace hE1 := hE1.trans hE7
          clear hE7
          have hE2 : Ext u211 (u211.alloc (.cells #[.int .i64 lh, .int .i64 la, .int .i64 lr, .int .u64 ln] 24)) := (Ext.refl u211).alloc _
          replace s1 := s1.ext hE2
          replace s2 := s2.ext hE2
          replace hs := hs.ext hE2
          replace sS := sS.ext hE2
          replace BX := ((hE2).block _ (lt_of_block BX)).trans BX
          replace hE1 := hE1.trans hE2
          clear hE2
          go_wp2_with fail
          generalize (u211.alloc (.cells #[.int .i64 lh, .int .i64 la, .int .i64 lr, .int .u64 ln] 24)) = v211 at *
          generalize u211.heap.size = c211 at *
          refine (long_rep (fun hz => (HM.out hz).2) _ _ _ _ sS (by omega)).mono ?_
          rintro e u212 ⟨m0, m1, m2, m3, m4, m5, m6, m7, m8, m9, i2, rfl, hi2, hE7⟩
          try clear hi2
          replace s1 := s1.ext hE7
          replace s2 := s2.ext hE7
          replace hs := hs.ext hE7
          replace BX := ((hE7).block _ (lt_of_block BX)).trans BX
          replace hE1 := hE1.trans hE7
          clear hE7 sS HM
          have hE2 : Ext u212 (u212.alloc (.cells #[.int .i64 m0, .int .i64 m1, .int .i64 m2, .int .u64 m3, .int .i64 m4, .int .i64 m5, .int .i64 m6, .int .i64 m7, .int .i64 m8, .int .i64 m9] 30)) := (Ext.refl u212).alloc _
          replace s1 := s1.ext hE2
          replace s2 := s2.ext hE2
          replace hs := hs.ext hE2
          replace BX := ((hE2).block _ (lt_of_block BX)).trans BX
          replace hE1 := hE1.trans hE2
          clear hE2
          go_wp2_with fail
          generalize (u212.alloc (.cells #[.int .i64 m0, .int .i64 m1, .int .i64 m2, .int .u64 m3, .int .i64 m4, .int .i64 m5, .int .i64 m6, .int .i64 m7, .int .i64 m8, .int .i64 m9] 30)) = v212 at *
          generalize u212.heap.size = c212 at *
          rw [rounds_succ]
          go_wp2
          go_ret
          exact ⟨rfl, hE0.trans hE1⟩
        · have hz0 : decide ((0 : Int) < n2) = true := by simp; omega
          rw [rounds_succ]
          have gX0 := cell_of_block BX 0 (.slice (some ⟨b3, o3, none⟩) L1 y1) rfl
          have gX1 := cell_of_block BX 1 (.slice (some ⟨b4, o4, none⟩) L2 y2) rfl
          have lX := lt_of_block BX
          have hn0 : OwI .u8 5 V0.heap.size (V0.alloc (.cells #[] 5)) (some ⟨V0.heap.size, 0, none⟩) 0 0 [] := OwI.lit .u8 5 V0 [] (Nat.le_refl _) (by simp [maxLen]) #[] rfl
          have sc := (s1.take (m := j1) (by omega)).ext ((Ext.refl V0).alloc (.cells #[] 5))
          go_wp2_with (at_builtin; refine appA el_u8 rfl _ _ rfl _ V0.heap.size _ 0 0 [] rfl hn0 _ _ _ (X1.take j1) rfl sc (by simp) (by unfold maxLen; omega) (by omega) ?_; refine hold ?_)
          refine held ?_
          intro g6 c6 u16 ho6 hB6
          have hE6 : Ext V0 u16 := Below.trans ((Ext.refl V0).alloc _) hB6
          have sS := ho6.sl (fun x hx => s1.wf x (List.mem_of_mem_take (by simpa using hx)))
          try simp only [Nat.zero_add, List.nil_append] at sS
          clear hn0 sc ho6 hB6 gX0 gX1 lX
          replace s1 := s1.ext hE6
          replace s2 := s2.ext hE6
          replace hs := hs.ext hE6
          replace BX := ((hE6).block _ (lt_of_block BX)).trans BX
          replace hE1 := hE1.trans hE6
          clear hE6
          go_wp2_with fail
          refine (getRequest_no (P1.cut j1 hj1).1 _ _ _ _ sS (by omega)).mono ?_
          rintro e u17 ⟨rfl, hE7⟩
          replace s1 := s1.ext hE7
          replace s2 := s2.ext hE7
          replace hs := hs.ext hE7
          replace sS := sS.ext hE7
          replace BX := ((hE7).block _ (lt_of_block BX)).trans BX
          replace hE1 := hE1.trans hE7
          clear hE7
          have hE2 : Ext u17 (u17.alloc (.cells #[.int .i64 0, .int .i64 0, .int .i64 0, .int .u64 0] 24)) := (Ext.refl u17).alloc _
          replace s1 := s1.ext hE2
          replace s2 := s2.ext hE2
          replace hs := hs.ext hE2
          replace sS := sS.ext hE2
          replace BX := ((hE2).block _ (lt_of_block BX)).trans BX
          replace hE1 := hE1.trans hE2
          clear hE2
          go_wp2_with fail
          generalize (u17.alloc (.cells #[.int .i64 0, .int .i64 0, .int .i64 0, .int .u64 0] 24)) = v17 at *
          generalize u17.heap.size = c17 at *
          refine (getReply_no (P1.cut j1 hj1).2 _ _ _ _ sS (by omega)).mono ?_
          rintro e u18 ⟨rfl, hE7⟩
          replace s1 := s1.ext hE7
          replace s2 := s2.ext hE7
          replace hs := hs.ext hE7
          replace BX := ((hE7).block _ (lt_of_block BX)).trans BX
          replace hE1 := hE1.trans hE7
          clear hE7 sS
          have hE2 : Ext u18 (u18.alloc (.cells #[.int .i64 0, .int .i64 0, .int .i64 0, .int .u64 0, .int .i64 0, .int .i64 0, .int .i64 0, .int .i64 0, .int .i64 0, .int .i64 0] 30)) := (Ext.refl u18).alloc _
          replace s1 := s1.ext hE2
          replace s2 := s2.ext hE2
          replace hs := hs.ext hE2
          replace BX := ((hE2).block _ (lt_of_block BX)).trans BX
          replace hE1 := hE1.trans hE2
          clear hE2
          go_upto_region 14 with fail
          generalize (u18.alloc (.cells #[.int .i64 0, .int .i64 0, .int .i64 0, .int .u64 0, .int .i64 0, .int .i64 0, .int .i64 0, .int .i64 0, .int .i64 0, .int .i64 0] 30)) = v18 at *
          generalize u18.heap.size = c18 at *
          have hn0 : OwI .u8 5 v18.heap.size (v18.alloc (.cells #[] 5)) (some ⟨v18.heap.size, 0, none⟩) 0 0 [] := OwI.lit .u8 5 v18 [] (Nat.le_refl _) (by simp [maxLen]) #[] rfl
          have sc := s1.ext ((Ext.refl v18).alloc (.cells #[] 5))
          go_wp2_with (at_builtin; refine appA el_u8 rfl _ _ rfl _ v18.heap.size _ 0 0 [] rfl hn0 _ _ _ X1 rfl sc (by simp) (by unfold maxLen; omega) (by omega) ?_; refine hold ?_)
          refine held ?_
          intro g6 c6 u19 ho6 hB6
          have hE6 : Ext v18 u19 := Below.trans ((Ext.refl v18).alloc _) hB6
          have hz6 : v18.heap.size ≤ u19.heap.size := hE6.sz
          have hs9 := hs.ext hE6
          clear hn0 sc hB6
          go_wp2_with (at_builtin; refine appA el_u8 rfl _ _ rfl _ v18.heap.size _ _ _ _ rfl ho6 _ _ _ xs rfl hs9 hz6 (by unfold maxLen; omega) (by omega) ?_; refine hold ?_)
          refine held ?_
          intro g7 c7 u110 ho7 hB7
          have hE7 : Ext v18 u110 := Below.trans hE6 hB7
          try simp only [Nat.zero_add, List.nil_append] at ho7
          have sS := ho7.sl (fun x hx => (List.mem_append.1 hx).elim (s1.wf x) (hs.wf x))
          clear ho6 ho7 hE6 hz6 hs9 hB7
          replace s1 := s1.ext hE7
          replace s2 := s2.ext hE7
          replace hs := hs.ext hE7
          replace BX := ((hE7).block _ (lt_of_block BX)).trans BX
          replace hE1 := hE1.trans hE7
          clear hE7
          go_wp2_with fail
          have hmore : 0 < n2 → lreq (X1 ++ xs) = none ∧ lrep (X1 ++ xs) = none := fun hz => P1.more xs (fun hx => by have := hs.hlen; rw [hx] at this; simp at this; omega)
          have HM := Lib.hid hmore
          clear hmore
          refine (long_req (fun hz => (HM.out hz).1) _ _ _ _ sS (by omega)).mono ?_
          rintro e u111 ⟨lh, la, lr, ln, i1, rfl, hi1, hE7⟩
          obtain rfl := hi1 pz
          try clear hi1
          replace s1 := s1.ext hE7
          replace s2 := s2.ext hE7
          replace hs := hs.ext hE7
          replace sS := sS.ext hE7
          replace BX := ((hE7).block _ (lt_of_block BX)).trans BX
          replace hE1 := hE1.trans hE7
          clear hE7
          have hE2 : Ext u111 (u111.alloc (.cells #[.int .i64 lh, .int .i64 la, .int .i64 lr, .int .u64 ln] 24)) := (Ext.refl u111).alloc _
          replace s1 := s1.ext hE2
          replace s2 := s2.ext hE2
          replace hs := hs.ext hE2
          replace sS := sS.ext hE2
          replace BX := ((hE2).block _ (lt_of_block BX)).trans BX
          replace hE1 := hE1.trans hE2
          clear hE2
          go_wp2_with fail
          generalize (u111.alloc (.cells #[.int .i64 lh, .int .i64 la, .int .i64 lr, .int .u64 ln] 24)) = v111 at *
          generalize u111.heap.size = c111 at *
          refine (long_rep (fun hz => (HM.out hz).2) _ _ _ _ sS (by omega)).mono ?_
          rintro e u112 ⟨m0, m1, m2, m3, m4, m5, m6, m7, m8, m9, i2, rfl, hi2, hE7⟩
          obtain rfl := hi2 pz
          try clear hi2
          replace s1 := s1.ext hE7
          replace s2 := s2.ext hE7
          replace hs := hs.ext hE7
          replace BX := ((hE7).block _ (lt_of_block BX)).trans BX
          replace hE1 := hE1.trans hE7
          clear hE7 sS HM
          have hE2 : Ext u112 (u112.alloc (.cells #[.int .i64 m0, .int .i64 m1, .int .i64 m2, .int .u64 m3, .int .i64 m4, .int .i64 m5, .int .i64 m6, .int .i64 m7, .int .i64 m8, .int .i64 m9] 30)) := (Ext.refl u112).alloc _
          replace s1 := s1.ext hE2
          replace s2 := s2.ext hE2
          replace hs := hs.ext hE2
          replace BX := ((hE2).block _ (lt_of_block BX)).trans BX
          replace hE1 := hE1.trans hE2
          clear hE2
          go_wp2_with fail
          generalize (u112.alloc (.cells #[.int .i64 m0, .int .i64 m1, .int .i64 m2, .int .u64 m3, .int .i64 m4, .int .i64 m5, .int .i64 m6, .int .i64 m7, .int .i64 m8, .int .i64 m9] 30)) = v112 at *
          generalize u112.heap.size = c112 at *
          rw [rounds_succ]
          have gX0 := cell_of_block BX 0 (.slice (some ⟨b3, o3, none⟩) L1 y1) rfl
          have gX1 := cell_of_block BX 1 (.slice (some ⟨b4, o4, none⟩) L2 y2) rfl
          have lX := lt_of_block BX
          have hn0 : OwI .u8 5 v112.heap.size (v112.alloc (.cells #[] 5)) (some ⟨v112.heap.size, 0, none⟩) 0 0 [] := OwI.lit .u8 5 v112 [] (Nat.le_refl _) (by simp [maxLen]) #[] rfl
          have sc := (s2.take (m := j2) (by omega)).ext ((Ext.refl v112).alloc (.cells #[] 5))
          go_wp2_with (at_builtin; refine appA el_u8 rfl _ _ rfl _ v112.heap.size _ 0 0 [] rfl hn0 _ _ _ (X2.take j2) rfl sc (by simp) (by unfold maxLen; omega) (by omega) ?_; refine hold ?_)
          refine held ?_
          intro g6 c6 u26 ho6 hB6
          have hE6 : Ext v112 u26 := Below.trans ((Ext.refl v112).alloc _) hB6
          have sS := ho6.sl (fun x hx => s2.wf x (List.mem_of_mem_take (by simpa using hx)))
          try simp only [Nat.zero_add, List.nil_append] at sS
          clear hn0 sc ho6 hB6 gX0 gX1 lX
          replace s1 := s1.ext hE6
          replace s2 := s2.ext hE6
          replace hs := hs.ext hE6
          replace BX := ((hE6).block _ (lt_of_block BX)).trans BX
          replace hE1 := hE1.trans hE6
          clear hE6
          go_wp2_with fail
          refine (getRequest_no (P2.cut j2 hj2).1 _ _ _ _ sS (by omega)).mono ?_
          rintro e u27 ⟨rfl, hE7⟩
          replace s1 := s1.ext hE7
          replace s2 := s2.ext hE7
          replace hs := hs.ext hE7
          replace sS := sS.ext hE7
          replace BX := ((hE7).block _ (lt_of_block BX)).trans BX
          replace hE1 := hE1.trans hE7
          clear hE7
          have hE2 : Ext u27 (u27.alloc (.cells #[.int .i64 0, .int .i64 0, .int .i64 0, .int .u64 0] 24)) := (Ext.refl u27).alloc _
          replace s1 := s1.ext hE2
          replace s2 := s2.ext hE2
          replace hs := hs.ext hE2
          replace sS := sS.ext hE2
          replace BX := ((hE2).block _ (lt_of_block BX)).trans BX
          replace hE1 := hE1.trans hE2
          clear hE2
          go_wp2_with fail
          generalize (u27.alloc (.cells #[.int .i64 0, .int .i64 0, .int .i64 0, .int .u64 0] 24)) = v27 at *
          generalize u27.heap.size = c27 at *
          refine (getReply_no (P2.cut j2 hj2).2 _ _ _ _ sS (by omega)).mono ?_
          rintro e u28 ⟨rfl, hE7⟩
          replace s1 := s1.ext hE7
          replace s2 := s2.ext hE7
          replace hs := hs.ext hE7
          replace BX := ((hE7).block _ (lt_of_block BX)).trans BX
          replace hE1 := hE1.trans hE7
          clear hE7 sS
          have hE2 : Ext u28 (u28.alloc (.cells #[.int .i64 0, .int .i64 0, .int .i64 0, .int .u64 0, .int .i64 0, .int .i64 0, .int .i64 0, .int .i64 0, .int .i64 0, .int .i64 0] 30)) := (Ext.refl u28).alloc _
          replace s1 := s1.ext hE2
          replace s2 := s2.ext hE2
          replace hs := hs.ext hE2
          replace BX := ((hE2).block _ (lt_of_block BX)).trans BX
          replace hE1 := hE1.trans hE2
          clear hE2
          go_upto_region 14 with fail
          generalize (u28.alloc (.cells #[.int .i64 0, .int .i64 0, .int .i64 0, .int .u64 0, .int .i64 0, .int .i64 0, .int .i64 0, .int .i64 0, .int .i64 0, .int .i64 0] 30)) = v28 at *
          generalize u28.heap.size = c28 at *
          have hn0 : OwI .u8 5 v28.heap.size (v28.alloc (.cells #[] 5)) (some ⟨v28.heap.size, 0, none⟩) 0 0 [] := OwI.lit .u8 5 v28 [] (Nat.le_refl _) (by simp [maxLen]) #[] rfl
          have sc := s2.ext ((Ext.refl v28).alloc (.cells #[] 5))
          go_wp2_with (at_builtin; refine appA el_u8 rfl _ _ rfl _ v28.heap.size _ 0 0 [] rfl hn0 _ _ _ X2 rfl sc (by simp) (by unfold maxLen; omega) (by omega) ?_; refine hold ?_)
          refine held ?_
          intro g6 c6 u29 ho6 hB6
          have hE6 : Ext v28 u29 := Below.trans ((Ext.refl v28).alloc _) hB6
          have hz6 : v28.heap.size ≤ u29.heap.size := hE6.sz
          have hs9 := hs.ext hE6
          clear hn0 sc hB6
          go_wp2_with (at_builtin; refine appA el_u8 rfl _ _ rfl _ v28.heap.size _ _ _ _ rfl ho6 _ _ _ xs rfl hs9 hz6 (by unfold maxLen; omega) (by omega) ?_; refine hold ?_)
          refine held ?_
          intro g7 c7 u210 ho7 hB7
          have hE7 : Ext v28 u210 := Below.trans hE6 hB7
          try simp only [Nat.zero_add, List.nil_append] at ho7
          have sS := ho7.sl (fun x hx => (List.mem_append.1 hx).elim (s2.wf x) (hs.wf x))
          clear ho6 ho7 hE6 hz6 hs9 hB7
          replace s1 := s1.ext hE7
          replace s2 := s2.ext hE7
          replace hs := hs.ext hE7
          replace BX := ((hE7).block _ (lt_of_block BX)).trans BX
          replace hE1 := hE1.trans hE7
          clear hE7
          go_wp2_with fail
          have hmore : 0 < n2 → lreq (X2 ++ xs) = none ∧ lrep (X2 ++ xs) = none := fun hz => P2.more xs (fun hx => by have := hs.hlen; rw [hx] at this; simp at this; omega)
          have HM := Lib.hid hmore
          clear hmore
          refine (long_req (fun hz => (HM.out hz).1) _ _ _ _ sS (by omega)).mono ?_
          rintro e u211 ⟨lh, la, lr, ln, i1, rfl, hi1, hE7⟩
          obtain rfl := hi1 pz
          try clear hi1
          replace s1 := s1.ext hE7
          replace s2 := s2.ext hE7
          replace hs := hs.ext hE7
          replace sS := sS.ext hE7
          replace BX := ((hE7).block _ (lt_of_block BX)).trans BX
          replace hE1 := hE1.trans hE7
          clear hE7
          have hE2 : Ext u211 (u211.alloc (.cells #[.int .i64 lh, .int .i64 la, .int .i64 lr, .int .u64 ln] 24)) := (Ext.refl u211).alloc _
          replace s1 := s1.ext hE2
          replace s2 := s2.ext hE2
          replace hs := hs.ext hE2
          replace sS := sS.ext hE2
          replace BX := ((hE2).block _ (lt_of_block BX)).trans BX
          replace hE1 := hE1.trans hE2
          clear hE2
          go_wp2_with fail
          generalize (u211.alloc (.cells #[.int .i64 lh, .int .i64 la, .int .i64 lr, .int .u64 ln] 24)) = v211 at *
          generalize u211.heap.size = c211 at *
          refine (long_rep (fun hz => (HM.out hz).2) _ _ _ _ sS (by omega)).mono ?_
          rintro e u212 ⟨m0, m1, m2, m3, m4, m5, m6, m7, m8, m9, i2, rfl, hi2, hE7⟩
          obtain rfl := hi2 pz
          try clear hi2
          replace s1 := s1.ext hE7
          replace s2 := s2.ext hE7
          replace hs := hs.ext hE7
          replace BX := ((hE7).block _ (lt_of_block BX)).trans BX
          replace hE1 := hE1.trans hE7
          clear hE7 sS HM
          have hE2 : Ext u212 (u212.alloc (.cells #[.int .i64 m0, .int .i64 m1, .int .i64 m2, .int .u64 m3, .int .i64 m4, .int .i64 m5, .int .i64 m6, .int .i64 m7, .int .i64 m8, .int .i64 m9] 30)) := (Ext.refl u212).alloc _
          replace s1 := s1.ext hE2
          replace s2 := s2.ext hE2
          replace hs := hs.ext hE2
          replace BX := ((hE2).block _ (lt_of_block BX)).trans BX
          replace hE1 := hE1.trans hE2
          clear hE2
          go_wp2_with fail
          generalize (u212.alloc (.cells #[.int .i64 m0, .int .i64 m1, .int .i64 m2, .int .u64 m3, .int .i64 m4, .int .i64 m5, .int .i64 m6, .int .i64 m7, .int .i64 m8, .int .i64 m9] 30)) = v212 at *
          generalize u212.heap.size = c212 at *
          rw [rounds_succ]
          go_wp2
          go_ret
          exact ⟨rfl, hE0.trans hE1⟩
      · have hd : decide ((50 : Int) < n2) = true := by simp; omega
        go_wp2
        go_ret
        exact ⟨rfl, hE0.trans hE1⟩
end Go.Proofs.Ytcpojkodidflcaa
