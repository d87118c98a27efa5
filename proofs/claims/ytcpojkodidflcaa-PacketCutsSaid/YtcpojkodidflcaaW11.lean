
import Derived.Test.YtcpojkodidflcaaW10
import Derived.Test.YtcpojkodidflcaaLib5
namespace Go.Proofs.Ytcpojkodidflcaa
open Go.RowKit Go.Sort Go.Shelf
set_option linter.unusedSimpArgs false
set_option linter.unusedVariables false
set_option maxRecDepth 100000

theorem int_some {xs : List Int} {at_ next : Nat} {x : Int} (hx : rdAt xs at_ = some (x, next)) (R : Nat) (a1 : Option Addr) (n1 c1 : Nat) (w : World) (h1 : Sl .u8 w a1 n1 c1 xs) (hr : Rdr w R a1 n1 c1 at_) (hat : at_ ≤ n1) (hn1 : n1 ≤ 1000000000) :
    Calls Try.prog 50 #[.pointer (some ⟨R, 0, none⟩)] w fun e w' => e = .returned (.int .i64 x) ∧ Rdr w' R a1 n1 c1 next ∧ w.grownBy w' (some R) :=
  (int_any R a1 n1 c1 at_ xs w h1 hr hat hn1).mono fun e w' ⟨h, _, hg⟩ => ⟨(h _ _ hx).1, (h _ _ hx).2, hg⟩
theorem int_none {xs : List Int} {at_ : Nat} (hx : rdAt xs at_ = none) (R : Nat) (a1 : Option Addr) (n1 c1 : Nat) (w : World) (h1 : Sl .u8 w a1 n1 c1 xs) (hr : Rdr w R a1 n1 c1 at_) (hat : at_ ≤ n1) (hn1 : n1 ≤ 1000000000) :
    Calls Try.prog 50 #[.pointer (some ⟨R, 0, none⟩)] w fun e w' => e = .panicked formPanic ∧ w.grownBy w' (some R) :=
  (int_any R a1 n1 c1 at_ xs w h1 hr hat hn1).mono fun e w' ⟨_, h, hg⟩ => ⟨h hx, hg⟩

/-- What lies in the three blocks of Get, and below. -/
structure GetW (base : Nat) (w wr : World) (a1 : Option Addr) (n1 c1 q : Nat) (a : Option Addr) (k c : Nat) (ys : List Int) : Prop where
  l : Boxed wr base 57 (.slice a k c)
  e : Boxed wr (base + 1) 33 (.int .i64 0)
  r : Rdr wr (base + 1 + 1) a1 n1 c1 q
  o : OwI .i64 3 base wr a k c ys
  b : Below base w wr

theorem GetW.int {base : Nat} {w wr w2 : World} {a1 : Option Addr} {n1 c1 q q2 : Nat} {a : Option Addr} {k c : Nat} {ys : List Int} (h : GetW base w wr a1 n1 c1 q a k c ys) (hb : base ≤ wr.heap.size)
    (hg : wr.grownBy w2 (some (base + 1 + 1))) (hr : Rdr w2 (base + 1 + 1) a1 n1 c1 q2) : GetW base w w2 a1 n1 c1 q2 a k c ys := by
  refine ⟨h.l.kept hg (by simp; omega), h.e.kept hg (by simp), hr, World.ownsRow.kept h.o hg ?_, h.b.grown hg hb (by intro k e; cases e; omega)⟩
  right
  rcases h.o.2 with ⟨hv, _⟩ | ⟨g, cap, cur, hv, _, hgb, _⟩
  · rw [hv]; simp [Value.ownBlock]
  · rw [hv]
    intro e'
    obtain rfl : g = base + 1 + 1 := by simpa [Value.ownBlock] using e'
    have hR : wr.heap[base + 1 + 1]? = some (.cells #[.slice a1 n1 c1, .int .i64 q] 90 (0, 0)) := h.r
    rw [hgb] at hR
    simp at hR

/-- A panic in Get: what is still known. -/
theorem GetW.lost {base : Nat} {w wr w2 : World} {a1 : Option Addr} {n1 c1 q : Nat} {a : Option Addr} {k c : Nat} {ys : List Int} (h : GetW base w wr a1 n1 c1 q a k c ys) (hb : base ≤ wr.heap.size)
    (hg : wr.grownBy w2 (some (base + 1 + 1))) : Boxed w2 base 57 (.slice a k c) ∧ Boxed w2 (base + 1) 33 (.int .i64 0) ∧ Below base w w2 :=
  ⟨h.l.kept hg (by simp; omega), h.e.kept hg (by simp), h.b.grown hg hb (by intro k e; cases e; omega)⟩

theorem GetW.app {base : Nat} {w w3 w4 : World} {a1 : Option Addr} {n1 c1 q : Nat} {a : Option Addr} {k c g cap : Nat} {ys ys' : List Int} {x : Int} (h : GetW base w w3 a1 n1 c1 q a k c ys)
    (hb : Below base w3 w4) (ho : OwI .i64 3 base w4 (some ⟨g, 0, none⟩) (k + 1) cap ys') (hg : (w3.alloc (.cells #[.int .i64 x] 3)).grownBy w4 (Value.slice a k c).ownBlock) :
    GetW base w (w4.setCell ⟨base, 0, none⟩ (.slice (some ⟨g, 0, none⟩) (k + 1) cap)) a1 n1 c1 q (some ⟨g, 0, none⟩) (k + 1) cap ys' := by
  have l4 := (h.l.alloc _).kept hg (Boxed.not_row h.l (by decide) h.o)
  have e4 := (h.e.alloc _).kept hg (Boxed.not_row h.e (by decide) h.o)
  have hR : w3.heap[base + 1 + 1]? = some (.cells #[.slice a1 n1 c1, .int .i64 q] 90 (0, 0)) := h.r
  have hRlt := (Array.getElem?_eq_some_iff.1 hR).1
  have hRne : some (base + 1 + 1) ≠ (Value.slice a k c).ownBlock := by
    rcases h.o.2 with ⟨hv, _⟩ | ⟨g', cap', cur, hv, _, hgb, _⟩
    · rw [hv]; simp [Value.ownBlock]
    · rw [hv]
      intro e'
      obtain rfl : base + 1 + 1 = g' := by simpa [Value.ownBlock] using e'
      rw [hgb] at hR
      simp at hR
  refine ⟨l4.set _, e4.other (by omega) _, ?_, World.ownsRow.kept ho (grownBy_setCell' w4 base _) (.inr (Boxed.not_row l4 (by decide) ho).symm), (h.b.trans hb).setCell (p := ⟨base, 0, none⟩) (Nat.le_refl _) _⟩
  show (w4.setCell ⟨base, 0, none⟩ _).heap[base + 1 + 1]? = _
  rw [Below.heap_setCell _ _ _ _ (by simp; omega), hg.block (base + 1 + 1) (by simp; omega) hRne, Below.heap_alloc _ _ _ hRlt]
  exact hR

theorem grown_draw {w w' : World} {row : Option Nat} (hg : w.drew.grownBy w' row) : w.grownBy w' row := ⟨hg.os, hg.tape, hg.output, hg.size, hg.block⟩

set_option maxHeartbeats 1000000 in
theorem get_any (a1 : Option Addr) (n1 c1 : Nat) (xs : List Int) (w : World) (h1 : Sl .u8 w a1 n1 c1 xs) (hn1 : n1 ≤ 1000000000) :
    Calls Try.prog 43 #[.slice a1 n1 c1] w fun e w' => GetPost w w' e (lget xs) := by
  have b1 := h1.bd
  have e1 := Lib.hid h1.hlen
  have H0 := Lib.hid h1.wf
  have hmf : ∀ (fn : Fn) (first cap : Array Value) (w : World), (Instr.makeFunc fn first cap).run Try.prog w = .ok (.func fn first cap) w := fun _ _ _ _ => rfl
  have hG0 : GetW w.heap.size w (((w.alloc (.cells #[.slice none 0 0] 57)).alloc (.cells #[.int .i64 0] 33)).alloc (.cells #[.slice a1 n1 c1, .int .i64 0] 90)) a1 n1 c1 0 none 0 0 [] := by
    refine ⟨((Boxed.new w _ _).alloc _).alloc _, ?_, ?_, OwI.nil _ _ _ _, (((Ext.refl w).alloc _).alloc _).alloc _⟩
    · have := (Boxed.new (w.alloc (.cells #[.slice none 0 0] 57)) 33 (.int .i64 0)).alloc (.cells #[.slice a1 n1 c1, .int .i64 0] 90)
      rwa [World.size_alloc] at this
    · have := World.alloc_heap_new ((w.alloc (.cells #[.slice none 0 0] 57)).alloc (.cells #[.int .i64 0] 33)) (.cells #[.slice a1 n1 c1, .int .i64 0] 90)
      rw [World.size_alloc, World.size_alloc] at this
      exact this
  have HG0 := Lib.hid hG0
  clear hG0
  go_enter_defers Try.func43, Try.ntmps43
  rcases hr0 : rdAt xs 0 with _ | ⟨m, at0⟩
  · have R0 := Lib.hid hr0
    clear hr0
    go_wp2_with fail
    refine (int_none R0.out _ a1 n1 c1 _ (h1.ext ?_) ?_ (by omega) hn1).mono ?_
    · exact (((Ext.refl w).alloc _).alloc _).alloc _
    · exact HG0.out.r
    rintro e w2 ⟨rfl, hg⟩
    obtain ⟨l2, e2, b2⟩ := HG0.out.lost (by simp; omega) hg
    go_wp2
    refine leaves_cons (f := 49) (args := #[.pointer (some ⟨w.heap.size, 0, none⟩), .pointer (some ⟨w.heap.size + 1, 0, none⟩)]) (by simp) (by simp [go_sem]) ?_
    refine (catch_panic w.heap.size w.heap.size (w.heap.size + 1) _ _ _ l2.cell e2.cell l2.frozen e2.frozen (by omega) (by omega) (by omega)).mono ?_
    rintro e u' w'' ⟨rfl, rfl, hc1, hc2, hc3⟩
    simp [Leaves, settle, results, Try.results43, go_sem, hc1, hc2]
    exact getPost_none (by unfold lget; rw [R0.out]) rfl (Below.trans b2 hc3)
  · have R0 := Lib.hid hr0
    have bd0 := rdAt_bd h1.wf hr0
    rw [e1.out] at bd0
    clear hr0
    go_wp2_with fail
    refine (int_some R0.out _ a1 n1 c1 _ (h1.ext ?_) ?_ (by omega) hn1).mono ?_
    · exact (((Ext.refl w).alloc _).alloc _).alloc _
    · exact HG0.out.r
    rintro e w2 ⟨rfl, hr2, hg⟩
    have hG2 := HG0.out.int (by simp; omega) hg hr2
    have HG2 := Lib.hid hG2
    clear hG2 hr2 hg HG0
    by_cases hm : m < 0 ∨ 1000 < m
    · have hbad : lget xs = none := by unfold lget; rw [R0.out]; simp only [hm, if_true]
      have l2 := HG2.out.l
      have e2 := HG2.out.e
      rcases hm with hm | hm
      · have hb1 : decide (0 ≤ m) = false := by simp; omega
        go_wp2_with (go_at_call 51; refine (need_no _).mono ?_; rintro e w' ⟨rfl, rfl⟩)
        refine leaves_cons (f := 49) (args := #[.pointer (some ⟨w.heap.size, 0, none⟩), .pointer (some ⟨w.heap.size + 1, 0, none⟩)]) (by simp) (by simp [go_sem]) ?_
        refine (catch_panic w.heap.size w.heap.size (w.heap.size + 1) _ _ _ l2.cell e2.cell l2.frozen e2.frozen (by omega) (by omega) (by omega)).mono ?_
        rintro e u' w'' ⟨rfl, rfl, hc1, hc2, hc3⟩
        simp [Leaves, settle, results, Try.results43, go_sem, hc1, hc2]
        exact getPost_none hbad rfl (Below.trans HG2.out.b hc3)
      · have hb1 : decide (0 ≤ m) = true := by simp; omega
        have hb2 : decide (m ≤ 1000) = false := by simp; omega
        go_wp2_with (go_at_call 51; refine (need_no _).mono ?_; rintro e w' ⟨rfl, rfl⟩)
        refine leaves_cons (f := 49) (args := #[.pointer (some ⟨w.heap.size, 0, none⟩), .pointer (some ⟨w.heap.size + 1, 0, none⟩)]) (by simp) (by simp [go_sem]) ?_
        refine (catch_panic w.heap.size w.heap.size (w.heap.size + 1) _ _ _ l2.cell e2.cell l2.frozen e2.frozen (by omega) (by omega) (by omega)).mono ?_
        rintro e u' w'' ⟨rfl, rfl, hc1, hc2, hc3⟩
        simp [Leaves, settle, results, Try.results43, go_sem, hc1, hc2]
        exact getPost_none hbad rfl (Below.trans HG2.out.b hc3)
    · obtain ⟨M, rfl⟩ : ∃ M : Nat, m = (M : Int) := ⟨m.toNat, by omega⟩
      have hM : M ≤ 1000 := by omega
      have hgo : Hid (lget xs = match rdMany xs M at0 with | none => none | some (l, e) => if e = xs.length then some l else none) := by
        unfold Hid lget; rw [R0.out]; simp only [hm, if_false]; rfl
      clear hm
      have hb1 : decide (0 ≤ (M : Int)) = true := by simp
      have hb2 : decide ((M : Int) ≤ 1000) = true := by simp; omega
      go_wp2_with (go_at_call 51; refine (need_yes _).mono ?_; rintro e w' ⟨rfl, rfl⟩)
      go_loopw [20] (fun i wr => ∃ (k q c : Nat) (a : Option Addr) (ys : List Int), k ≤ M ∧ i = .int .i64 k ∧ q ≤ n1 ∧ GetW w.heap.size w wr a1 n1 c1 q a k c ys ∧
        (∀ x ∈ ys, (Lit.int .i64 x).wf = true) ∧ rdMany xs M at0 = (rdMany xs (M - k) q).map fun (l, e) => (ys ++ l, e)) (fun i _ => M - (intOf i).toNat)
      case atStart => exact ⟨0, at0, 0, none, [], by omega, rfl, by omega, HG2.out, by simp, by simp⟩
      case round =>
        obtain ⟨k, q, c, a, ys, hk, rfl, hq, hGW, hyw, hrm⟩ := hrel
        have HGW := Lib.hid hGW
        have HR := Lib.hid hrm
        have HY := Lib.hid hyw
        have hE : Ext w wr := hGW.b
        have hlc := hGW.l.cell
        have hlf := hGW.l.frozen
        clear hrm hyw hGW
        have h1' := h1.ext hE
        have hsz := hE.sz
        by_cases hlt : k < M
        · have hMk : M - k = (M - (k + 1)) + 1 := by omega
          have HMk := Lib.hid hMk
          clear hMk
          rcases hr1 : rdAt xs q with _ | ⟨x, next⟩
          · have R1 := Lib.hid hr1
            clear hr1
            go_wp2_with fail
            have hbad : lget xs = none := by
              rw [hgo.out, HR.out, HMk.out]
              simp only [rdMany, R1.out]; rfl
            refine wp_region_any (by kernel_rfl) ?_
            change wpAny _ _ _ _ _ _ _ (World.drew _)
            refine wpAny_ready (rs := [0, 1]) (by kernel_rfl) (by simp) ?_
            refine AllReady.cons rfl (fun K hK => ?_) (AllReady.cons rfl (fun K hK => ?_) AllReady.nil)
            · go_simp
              refine hK _ _ ?_
              clear hK K
              refine wpAny_ready (rs := [1]) (by kernel_rfl) (by simp) ?_
              refine AllReady.cons rfl (fun K hK => ?_) AllReady.nil
              go_simp
              refine hK _ _ ?_
              clear hK K
              refine wpAny_ready (rs := [2]) (by kernel_rfl) (by simp) ?_
              refine AllReady.cons rfl (fun K hK => ?_) AllReady.nil
              go_simp
              refine (int_none R1.out _ a1 n1 c1 _ (h1'.ext ((Ext.refl _).drew)) (HGW.out.r.ext ((Ext.refl _).drew)) hq hn1).mono ?_
              rintro e w3 ⟨rfl, hg⟩
              obtain ⟨l2, e2, b2⟩ := HGW.out.lost hsz (grown_draw hg)
              refine leaves_cons (f := 49) (args := #[.pointer (some ⟨w.heap.size, 0, none⟩), .pointer (some ⟨w.heap.size + 1, 0, none⟩)]) (by simp) (by simp [go_sem]) ?_
              refine (catch_panic w.heap.size w.heap.size (w.heap.size + 1) _ _ _ l2.cell e2.cell l2.frozen e2.frozen (by omega) (by omega) (by omega)).mono ?_
              rintro e u' w'' ⟨rfl, rfl, hc1, hc2, hc3⟩
              simp [Leaves, settle, results, Try.results43, go_sem, hc1, hc2]
              exact getPost_none hbad rfl (Below.trans b2 hc3)
            · go_simp
              refine hK _ _ ?_
              clear hK K
              refine wpAny_ready (rs := [0, 2]) (by kernel_rfl) (by simp) ?_
              refine AllReady.cons rfl (fun K hK => ?_) (AllReady.cons rfl (fun K hK => ?_) AllReady.nil)
              · go_simp
                refine hK _ _ ?_
                clear hK K
                refine wpAny_ready (rs := [2]) (by kernel_rfl) (by simp) ?_
                refine AllReady.cons rfl (fun K hK => ?_) AllReady.nil
                go_simp
                refine (int_none R1.out _ a1 n1 c1 _ (h1'.ext ((Ext.refl _).drew)) (HGW.out.r.ext ((Ext.refl _).drew)) hq hn1).mono ?_
                rintro e w3 ⟨rfl, hg⟩
                obtain ⟨l2, e2, b2⟩ := HGW.out.lost hsz (grown_draw hg)
                refine leaves_cons (f := 49) (args := #[.pointer (some ⟨w.heap.size, 0, none⟩), .pointer (some ⟨w.heap.size + 1, 0, none⟩)]) (by simp) (by simp [go_sem]) ?_
                refine (catch_panic w.heap.size w.heap.size (w.heap.size + 1) _ _ _ l2.cell e2.cell l2.frozen e2.frozen (by omega) (by omega) (by omega)).mono ?_
                rintro e u' w'' ⟨rfl, rfl, hc1, hc2, hc3⟩
                simp [Leaves, settle, results, Try.results43, go_sem, hc1, hc2]
                exact getPost_none hbad rfl (Below.trans b2 hc3)
              · go_simp
                refine (int_none R1.out _ a1 n1 c1 _ (h1'.ext ((Ext.refl _).drew)) (HGW.out.r.ext ((Ext.refl _).drew)) hq hn1).mono ?_
                rintro e w3 ⟨rfl, hg⟩
                obtain ⟨l2, e2, b2⟩ := HGW.out.lost hsz (grown_draw hg)
                refine leaves_cons (f := 49) (args := #[.pointer (some ⟨w.heap.size, 0, none⟩), .pointer (some ⟨w.heap.size + 1, 0, none⟩)]) (by simp) (by simp [go_sem]) ?_
                refine (catch_panic w.heap.size w.heap.size (w.heap.size + 1) _ _ _ l2.cell e2.cell l2.frozen e2.frozen (by omega) (by omega) (by omega)).mono ?_
                rintro e u' w'' ⟨rfl, rfl, hc1, hc2, hc3⟩
                simp [Leaves, settle, results, Try.results43, go_sem, hc1, hc2]
                exact getPost_none hbad rfl (Below.trans b2 hc3)
          · have R1 := Lib.hid hr1
            have bd1 := rdAt_bd H0.out hr1
            rw [e1.out] at bd1
            clear hr1
            go_wp2_with fail
            have fin4 : ∀ (w3 w4 : World) (g cap : Nat), GetW w.heap.size w w3 a1 n1 c1 next a k c ys → OwI .i64 3 w.heap.size w4 (some ⟨g, 0, none⟩) (k + 1) cap (ys ++ [x]) → Below w.heap.size w3 w4 → (w3.alloc (.cells #[.int .i64 x] 3)).grownBy w4 (Value.slice a k c).ownBlock →
                ∃ (k' q' c' : Nat) (a' : Option Addr) (ys' : List Int), k' ≤ M ∧ Value.int .i64 ((k : Int) + 1) = .int .i64 k' ∧ q' ≤ n1 ∧ GetW w.heap.size w (w4.setCell ⟨w.heap.size, 0, none⟩ (.slice (some ⟨g, 0, none⟩) (k + 1) cap)) a1 n1 c1 q' a' k' c' ys' ∧
                  (∀ x ∈ ys', (Lit.int .i64 x).wf = true) ∧ rdMany xs M at0 = (rdMany xs (M - k') q').map fun (l, e) => (ys' ++ l, e) := by
              intro w3 w4 g cap hG3 ho4 hb4 hg4
              refine ⟨k + 1, next, cap, _, ys ++ [x], by omega, by go_num, by omega, hG3.app hb4 ho4 hg4, ?_, ?_⟩
              · intro y hy
                rcases List.mem_append.1 hy with h | h
                · exact HY.out y h
                · simp only [List.mem_singleton] at h; subst h
                  simp [Lit.wf, IntKind.min, IntKind.max, IntKind.bits, IntKind.signed]; omega
              · rw [HR.out, HMk.out]
                simp only [rdMany, R1.out, Option.map_map]
                congr 1
                funext ⟨l, e⟩
                simp
            refine wp_region_any (by kernel_rfl) ?_
            change wpAny _ _ _ _ _ _ _ (World.drew _)
            refine wpAny_ready (rs := [0, 1]) (by kernel_rfl) (by simp) ?_
            refine AllReady.cons rfl (fun K hK => ?_) (AllReady.cons rfl (fun K hK => ?_) (AllReady.nil))
            · go_simp
              refine hK _ _ ?_
              clear hK K
              refine wpAny_ready (rs := [1]) (by kernel_rfl) (by simp) ?_
              refine AllReady.cons rfl (fun K hK => ?_) (AllReady.nil)
              go_simp
              refine hK _ _ ?_
              clear hK K
              refine wpAny_ready (rs := [2]) (by kernel_rfl) (by simp) ?_
              refine AllReady.cons rfl (fun K hK => ?_) (AllReady.nil)
              go_simp
              refine (int_some R1.out _ a1 n1 c1 _ (h1'.ext ((Ext.refl _).drew)) (HGW.out.r.ext ((Ext.refl _).drew)) hq hn1).mono ?_
              rintro e w3 ⟨rfl, hr3, hg3⟩
              have hG3 := Lib.hid (HGW.out.int hsz (grown_draw hg3) hr3)
              have l3 := hG3.out.l
              have l3c := l3.cell
              have o3 := hG3.out.o
              have hsz3 := hG3.out.b.size
              clear hr3 hg3
              refine hK _ _ ?_
              clear hK K
              refine wpAny_ready (rs := [3]) (by kernel_rfl) (by simp) ?_
              refine AllReady.cons rfl (fun K hK => ?_) (AllReady.nil)
              go_simp
              refine hK _ _ ?_
              clear hK K
              refine wpAny_ready (rs := [4]) (by kernel_rfl) (by simp) ?_
              refine AllReady.cons rfl (fun K hK => ?_) (AllReady.nil)
              refine step_app1 el_i64 rfl _ _ rfl _ w.heap.size _ _ _ _ _ rfl o3 rfl (by omega) (by unfold maxLen; omega) (by omega) ?_
              intro g cap w4 ho4 hb4 hg4
              have l4 := (l3.alloc _).kept hg4 (Boxed.not_row l3 (by decide) o3)
              have l4c := l4.cell
              have l4f := l4.frozen
              refine hK _ _ ?_
              clear hK K
              refine wpAny_ready (rs := [5]) (by kernel_rfl) (by simp) ?_
              refine AllReady.cons rfl (fun K hK => ?_) (AllReady.nil)
              go_simp
              refine hK _ _ ?_
              clear hK K
              refine wpAny_done (by kernel_rfl) ?_ _
              go_wp2
              go_roundw
              case rel => exact fin4 _ _ _ _ hG3.out ho4 hb4 hg4
              case measure => simp [intOf]; omega
            · go_simp
              refine hK _ _ ?_
              clear hK K
              refine wpAny_ready (rs := [0, 2]) (by kernel_rfl) (by simp) ?_
              refine AllReady.cons rfl (fun K hK => ?_) (AllReady.cons rfl (fun K hK => ?_) (AllReady.nil))
              · go_simp
                refine hK _ _ ?_
                clear hK K
                refine wpAny_ready (rs := [2]) (by kernel_rfl) (by simp) ?_
                refine AllReady.cons rfl (fun K hK => ?_) (AllReady.nil)
                go_simp
                refine (int_some R1.out _ a1 n1 c1 _ (h1'.ext ((Ext.refl _).drew)) (HGW.out.r.ext ((Ext.refl _).drew)) hq hn1).mono ?_
                rintro e w3 ⟨rfl, hr3, hg3⟩
                have hG3 := Lib.hid (HGW.out.int hsz (grown_draw hg3) hr3)
                have l3 := hG3.out.l
                have l3c := l3.cell
                have o3 := hG3.out.o
                have hsz3 := hG3.out.b.size
                clear hr3 hg3
                refine hK _ _ ?_
                clear hK K
                refine wpAny_ready (rs := [3]) (by kernel_rfl) (by simp) ?_
                refine AllReady.cons rfl (fun K hK => ?_) (AllReady.nil)
                go_simp
                refine hK _ _ ?_
                clear hK K
                refine wpAny_ready (rs := [4]) (by kernel_rfl) (by simp) ?_
                refine AllReady.cons rfl (fun K hK => ?_) (AllReady.nil)
                refine step_app1 el_i64 rfl _ _ rfl _ w.heap.size _ _ _ _ _ rfl o3 rfl (by omega) (by unfold maxLen; omega) (by omega) ?_
                intro g cap w4 ho4 hb4 hg4
                have l4 := (l3.alloc _).kept hg4 (Boxed.not_row l3 (by decide) o3)
                have l4c := l4.cell
                have l4f := l4.frozen
                refine hK _ _ ?_
                clear hK K
                refine wpAny_ready (rs := [5]) (by kernel_rfl) (by simp) ?_
                refine AllReady.cons rfl (fun K hK => ?_) (AllReady.nil)
                go_simp
                refine hK _ _ ?_
                clear hK K
                refine wpAny_done (by kernel_rfl) ?_ _
                go_wp2
                go_roundw
                case rel => exact fin4 _ _ _ _ hG3.out ho4 hb4 hg4
                case measure => simp [intOf]; omega
              · go_simp
                refine (int_some R1.out _ a1 n1 c1 _ (h1'.ext ((Ext.refl _).drew)) (HGW.out.r.ext ((Ext.refl _).drew)) hq hn1).mono ?_
                rintro e w3 ⟨rfl, hr3, hg3⟩
                have hG3 := Lib.hid (HGW.out.int hsz (grown_draw hg3) hr3)
                have l3 := hG3.out.l
                have l3c := l3.cell
                have o3 := hG3.out.o
                have hsz3 := hG3.out.b.size
                clear hr3 hg3
                refine hK _ _ ?_
                clear hK K
                refine wpAny_ready (rs := [0, 3]) (by kernel_rfl) (by simp) ?_
                refine AllReady.cons rfl (fun K hK => ?_) (AllReady.cons rfl (fun K hK => ?_) (AllReady.nil))
                · go_simp
                  refine hK _ _ ?_
                  clear hK K
                  refine wpAny_ready (rs := [3]) (by kernel_rfl) (by simp) ?_
                  refine AllReady.cons rfl (fun K hK => ?_) (AllReady.nil)
                  go_simp
                  refine hK _ _ ?_
                  clear hK K
                  refine wpAny_ready (rs := [4]) (by kernel_rfl) (by simp) ?_
                  refine AllReady.cons rfl (fun K hK => ?_) (AllReady.nil)
                  refine step_app1 el_i64 rfl _ _ rfl _ w.heap.size _ _ _ _ _ rfl o3 rfl (by omega) (by unfold maxLen; omega) (by omega) ?_
                  intro g cap w4 ho4 hb4 hg4
                  have l4 := (l3.alloc _).kept hg4 (Boxed.not_row l3 (by decide) o3)
                  have l4c := l4.cell
                  have l4f := l4.frozen
                  refine hK _ _ ?_
                  clear hK K
                  refine wpAny_ready (rs := [5]) (by kernel_rfl) (by simp) ?_
                  refine AllReady.cons rfl (fun K hK => ?_) (AllReady.nil)
                  go_simp
                  refine hK _ _ ?_
                  clear hK K
                  refine wpAny_done (by kernel_rfl) ?_ _
                  go_wp2
                  go_roundw
                  case rel => exact fin4 _ _ _ _ hG3.out ho4 hb4 hg4
                  case measure => simp [intOf]; omega
                · go_simp
                  refine hK _ _ ?_
                  clear hK K
                  have l3a := (l3.alloc (.cells #[.int .i64 x] 3)).cell
                  refine wpAny_ready (rs := [0]) (by kernel_rfl) (by simp) ?_
                  refine AllReady.cons rfl (fun K hK => ?_) (AllReady.nil)
                  go_simp
                  refine hK _ _ ?_
                  clear hK K
                  refine wpAny_ready (rs := [4]) (by kernel_rfl) (by simp) ?_
                  refine AllReady.cons rfl (fun K hK => ?_) (AllReady.nil)
                  refine step_app1 el_i64 rfl _ _ rfl _ w.heap.size _ _ _ _ _ rfl o3 rfl (by omega) (by unfold maxLen; omega) (by omega) ?_
                  intro g cap w4 ho4 hb4 hg4
                  have l4 := (l3.alloc _).kept hg4 (Boxed.not_row l3 (by decide) o3)
                  have l4c := l4.cell
                  have l4f := l4.frozen
                  refine hK _ _ ?_
                  clear hK K
                  refine wpAny_ready (rs := [5]) (by kernel_rfl) (by simp) ?_
                  refine AllReady.cons rfl (fun K hK => ?_) (AllReady.nil)
                  go_simp
                  refine hK _ _ ?_
                  clear hK K
                  refine wpAny_done (by kernel_rfl) ?_ _
                  go_wp2
                  go_roundw
                  case rel => exact fin4 _ _ _ _ hG3.out ho4 hb4 hg4
                  case measure => simp [intOf]; omega
        · obtain rfl : k = M := by omega
          have hfin : lget xs = if q = n1 then some ys else none := by
            rw [hgo.out, HR.out, Nat.sub_self]
            simp only [rdMany, Option.map_some, List.append_nil]
            rw [e1.out]
          have HF := Lib.hid hfin
          clear hfin
          have r0 := HGW.out.r.c0
          have r1 := HGW.out.r.c1
          by_cases hend : q = n1
          · have HE := Lib.hid hend
            have hq1 : ((q : Int) == n1) = true := by simp [hend]
            have l3 := HGW.out.l
            have e3 := HGW.out.e
            have l3c := l3.cell
            have l3f := l3.frozen
            have e3c := e3.cell
            have e3f := e3.frozen
            clear hend
            go_wp2_with (go_at_call 51; refine (need_yes _).mono ?_; rintro e w' ⟨rfl, rfl⟩)
            refine leaves_cons (f := 49) (args := #[.pointer (some ⟨w.heap.size, 0, none⟩), .pointer (some ⟨w.heap.size + 1, 0, none⟩)]) (by simp) (by simp [go_sem]) ?_
            refine (catch_idle w.heap.size (w.heap.size + 1) _).mono ?_
            rintro e u' w'' ⟨rfl, rfl, rfl⟩
            have l5 := (l3.set (.slice a k c)).other (B' := w.heap.size + 1) (by omega) (.int .i64 0)
            have e5 := (e3.other (B' := w.heap.size) (by omega) (.slice a k c)).set (.int .i64 0)
            have o5 : OwI .i64 3 w.heap.size ((wr.setCell ⟨w.heap.size, 0, none⟩ (.slice a k c)).setCell ⟨w.heap.size + 1, 0, none⟩ (.int .i64 0)) a k c ys := by
              refine World.ownsRow.kept (World.ownsRow.kept HGW.out.o (grownBy_setCell' wr _ _) (.inr (Boxed.not_row l3 (by decide) HGW.out.o).symm)) (grownBy_setCell' _ _ _) (.inr ?_)
              exact (Boxed.not_row e3 (by decide) HGW.out.o).symm
            have b5 := (HGW.out.b.setCell (p := ⟨w.heap.size, 0, none⟩) (Nat.le_refl _) (.slice a k c)).setCell (p := ⟨w.heap.size + 1, 0, none⟩) (by simp) (.int .i64 0)
            generalize (wr.setCell ⟨w.heap.size, 0, none⟩ (.slice a k c)).setCell ⟨w.heap.size + 1, 0, none⟩ (.int .i64 0) = w5 at *
            have l5c := l5.cell
            have e5c := e5.cell
            simp [Leaves, settle, results, Try.results43, go_sem, l5c, e5c]
            rw [HF.out, if_pos HE.out]
            have hl := o5.hlen
            subst hl
            exact ⟨a, c, rfl, o5, b5⟩
          · have HE := Lib.hid hend
            have hq1 : ((q : Int) == n1) = false := by simp; omega
            have l2 := HGW.out.l
            have e2 := HGW.out.e
            clear hend
            go_wp2_with (go_at_call 51; refine (need_no _).mono ?_; rintro e w' ⟨rfl, rfl⟩)
            refine leaves_cons (f := 49) (args := #[.pointer (some ⟨w.heap.size, 0, none⟩), .pointer (some ⟨w.heap.size + 1, 0, none⟩)]) (by simp) (by simp [go_sem]) ?_
            refine (catch_panic w.heap.size w.heap.size (w.heap.size + 1) _ _ _ l2.cell e2.cell l2.frozen e2.frozen (by omega) (by omega) (by omega)).mono ?_
            rintro e u' w'' ⟨rfl, rfl, hc1, hc2, hc3⟩
            simp [Leaves, settle, results, Try.results43, go_sem, hc1, hc2]
            exact getPost_none (by rw [HF.out, if_neg HE.out]) rfl (Below.trans HGW.out.b hc3)

end Go.Proofs.Ytcpojkodidflcaa
