/-
  Reading a request: the reference.
-/
import Derived.Test.YtcpojkodidflcaaK4
import Derived.Test.YtcpojkodidflcaaLib9
namespace Go.Proofs.Ytcpojkodidflcaa
open Go.RowKit Go.Sort Go.Shelf
set_option linter.unusedSimpArgs false
set_option linter.unusedVariables false
set_option maxRecDepth 100000

def halfB (n : Int) : Bool := inB n 0 4294967295
theorem half_any (n : Int) (w : World) : Calls Try.prog 31 #[.int .i64 n] w fun e w' => e = .returned (.bool (halfB n)) ∧ w = w' := by
  unfold halfB
  go_enter Try.func31, Try.ntmps31
  go_wp2_with (refine (in_any _ _ _ _).mono ?_; rintro e w' ⟨rfl, rfl⟩)
  go_ret
  exact ⟨rfl, rfl⟩

/-- The integers of a packet of a kind, so many. -/
def lints (k : Int) (m : Nat) : List Int → Option (List Int)
  | [] => none
  | c :: t => if c = k then match lget t with
    | some l => if l.length = m then some l else none
    | none => none
    else none

abbrev Req4 := Int × Int × Int × Int
/-- The request of integers. -/
def reqOf : List Int → Option Req4
  | [h, a, r, u, l] => if (halfB u && halfB l && reqB h a r) = true then some (h, a, r, u * 4294967296 + l) else none
  | _ => none
def lreq (xs : List Int) : Option Req4 := (lints 1 5 xs).bind reqOf

def reqV (q : Req4) : Value := .agg #[.int .i64 q.1, .int .i64 q.2.1, .int .i64 q.2.2.1, .int .u64 q.2.2.2]
def ReqPost (w w' : World) (e : Ending) (o : Option Req4) : Prop := e = .returned (.tuple #[reqV (o.getD (0, 0, 0, 0)), .int .i64 (if o.isSome then 0 else 7)]) ∧ Ext w w'

theorem reqPost_no {w w' : World} {e : Ending} {o : Option Req4} (ho : o = none) (h : e = .returned (.tuple #[.agg #[.int .i64 0, .int .i64 0, .int .i64 0, .int .u64 0], .int .i64 7])) (hE : Ext w w') : ReqPost w w' e o := by
  subst ho; exact ⟨h, hE⟩
theorem reqPost_yes {w w' : World} {e : Ending} {o : Option Req4} {h a r n : Int} (ho : o = some (h, a, r, n)) (he : e = .returned (.tuple #[.agg #[.int .i64 h, .int .i64 a, .int .i64 r, .int .u64 n], .int .i64 0])) (hE : Ext w w') : ReqPost w w' e o := by
  subst ho; exact ⟨he, hE⟩

theorem nth_cons (c : Int) (t : List Int) : nth (c :: t) 0 = c := rfl

set_option maxHeartbeats 1000000 in
theorem rgetRequest_any (a1 : Option Addr) (n1 c1 : Nat) (xs : List Int) (w : World) (h1 : Sl .u8 w a1 n1 c1 xs) (hn1 : n1 ≤ 1000000000) :
    Calls Try.prog 15 #[.slice a1 n1 c1] w fun e w' => ReqPost w w' e (lreq xs) := by
  have b1 := h1.bd
  have e1 := h1.hlen
  rcases xs with _ | ⟨c, t⟩
  · obtain rfl : n1 = 0 := by simpa using e1.symm
    clear e1
    go_enter Try.func15, Try.ntmps15
    go_wp2
    go_returns
    exact reqPost_no rfl (by simp) (((Ext.refl w).alloc _))
  · have hp : 0 < n1 := by rw [← e1]; simp
    obtain ⟨x1, o1, rfl, hc⟩ := h1.at hp
    have hx0 := (hc 0 hp)
    rw [nth_cons, Nat.add_zero] at hx0
    clear hc
    have hxl : x1 < w.heap.size := lt_of_cell hx0
    have hm1 : ((n1 : Int) == 0) = false := by simp; omega
    by_cases hk : c = 1
    · subst hk
      have ht := h1.from (m := 1) hp
      rw [List.drop_succ_cons, List.drop_zero] at ht
      have hsl : ∀ w, (Instr.slice 31 (.slice (some ⟨x1, o1, none⟩) n1 c1) (some (.int .i64 1)) none none).run Try.prog w = .ok (.slice (subA (some ⟨x1, o1, none⟩) c1 1) (n1 - 1) (c1 - 1)) w := run_from (P := Try.prog) (T := 31) (by kernel_rfl) (fun _ => by kernel_rfl) (some ⟨x1, o1, none⟩) n1 c1 1 hp
      have hl0 : lreq (1 :: t) = (match lget t with | some l => if l.length = 5 then reqOf l else none | none => none) := by
        unfold lreq lints
        simp only [if_true]
        rcases lget t with _ | l
        · rfl
        · by_cases h5 : l.length = 5
          · simp [h5]
          · simp [h5]
      have HL := Lib.hid hl0
      have E1 := Lib.hid e1
      clear hl0 e1
      rcases hr : lget t with _ | l
      · have HR := Lib.hid hr
        clear hr
        go_enter Try.func15, Try.ntmps15
        go_wp2_with fail
        refine (rget_any _ _ _ t _ (ht.ext ((Ext.refl w).alloc _))).mono ?_
        intro e w2 hp2
        rw [HR.out] at hp2
        obtain ⟨rfl, hE2⟩ := hp2
        obtain ⟨hc2, hf2⟩ := hE2.rules
        have hz2 := hE2.sz1
        go_wp2
        refine bodyPost_ret (v := .tuple #[.agg #[.int .i64 0, .int .i64 0, .int .i64 0, .int .u64 0], .int .i64 7]) (by simp [results, Try.results15, go_sem, hc2, hf2, hz2]) rfl ?_
        exact reqPost_no (by rw [HL.out, HR.out]) rfl (by have hX := ((Ext.refl w).alloc _).trans hE2; repeat' (first | with_reducible exact hX | with_reducible refine Ext.setCell ?_ (Nat.le_refl _) _))
      · by_cases h5 : l.length = 5
        · match l, h5 with
          | [y0, y1, y2, y3, y4], _ =>
          have HR := Lib.hid hr
          clear hr
          go_enter Try.func15, Try.ntmps15
          go_wp2_with fail
          refine (rget_any _ _ _ t _ (ht.ext ((Ext.refl w).alloc _))).mono ?_
          intro e w2 hp2
          rw [HR.out] at hp2
          obtain ⟨a2, c2, rfl, ho2, hE2⟩ := hp2
          have hs2 := ho2.sl (lget_wf (i := 0) (j := t.length) ht.wf (by simpa using HR.out))
          obtain ⟨x2, o2, rfl, hcl⟩ := hs2.at (by simp)
          have f0 := hcl 0 (by simp)
          have f1 := hcl 1 (by simp)
          have f2 := hcl 2 (by simp)
          have f3 := hcl 3 (by simp)
          have f4 := hcl 4 (by simp)
          have v3 := wf_i64 (hs2.wf y3 (by simp))
          have v4 := wf_i64 (hs2.wf y4 (by simp))
          simp only [nth, List.getD_cons_zero, List.getD_cons_succ, Nat.add_zero] at f0 f1 f2 f3 f4
          obtain ⟨hc2, hf2⟩ := hE2.rules
          have hz2 := hE2.sz1
          simp only [List.length_cons, List.length_nil, Nat.zero_add]
          have hx2l : x2 < w2.heap.size := lt_of_cell f0
          clear hcl ho2 hs2
          rcases q3 : halfB y3 with _ | _
          · have Q3 := Lib.hid q3
            clear q3
            go_wp2_with (first | (go_at_call 31; refine (half_any _ _).mono ?_; rintro e w' ⟨rfl, rfl⟩; try rw [Q3.out]))
            all_goals (refine bodyPost_ret (v := .tuple #[.agg #[.int .i64 0, .int .i64 0, .int .i64 0, .int .u64 0], .int .i64 7]) (by simp [results, Try.results15, go_sem, hc2, hf2, hz2]) rfl ?_; exact reqPost_no (by rw [HL.out, HR.out]; simp [reqOf, Q3.out]) rfl (by have hX := ((Ext.refl w).alloc _).trans hE2; repeat' (first | with_reducible exact hX | with_reducible refine Ext.setCell ?_ (Nat.le_refl _) _)))
          · rcases q4 : halfB y4 with _ | _
            · have Q3 := Lib.hid q3
              have Q4 := Lib.hid q4
              clear q3 q4
              go_wp2_with (first | (go_at_call 31; refine (half_any _ _).mono ?_; rintro e w' ⟨rfl, rfl⟩; first | rw [Q3.out] | rw [Q4.out]))
              refine bodyPost_ret (v := .tuple #[.agg #[.int .i64 0, .int .i64 0, .int .i64 0, .int .u64 0], .int .i64 7]) (by simp [results, Try.results15, go_sem, hc2, hf2, hz2]) rfl ?_
              exact reqPost_no (by rw [HL.out, HR.out]; simp [reqOf, Q3.out, Q4.out]) rfl (by have hX := ((Ext.refl w).alloc _).trans hE2; repeat' (first | with_reducible exact hX | with_reducible refine Ext.setCell ?_ (Nat.le_refl _) _))
            · have r3 := inB_iff.1 q3
              have r4 := inB_iff.1 q4
              have Q3 := Lib.hid q3
              have Q4 := Lib.hid q4
              clear q3 q4
              go_wp2_with (first | (go_at_call 31; refine (half_any _ _).mono ?_; rintro e w' ⟨rfl, rfl⟩; first | rw [Q3.out] | rw [Q4.out]))
              have w3a : IntKind.u64.wrap y3 = y3 := IntWalk.u64_in _ ⟨by omega, by omega⟩
              have w4a : IntKind.u64.wrap y4 = y4 := IntWalk.u64_in _ ⟨by omega, by omega⟩
              have w3b : IntKind.u64.wrap (y3 * 4294967296) = y3 * 4294967296 := IntWalk.u64_in _ ⟨by omega, by omega⟩
              have w34 : IntKind.u64.wrap (y3 * 4294967296 + y4) = y3 * 4294967296 + y4 := IntWalk.u64_in _ ⟨by omega, by omega⟩
              refine region_mk 20 _ 8 #[.int .i64 0, .int .i64 0, .int .i64 0, .int .u64 0] 24 _ (by kernel_rfl) (by kernel_rfl) rfl rfl (fun _ => rfl) (fun a W => by simp [execOp, go_sem]) rfl (by kernel_rfl) ?_
              apply Exists.intro
              refine ⟨fun W0 hE0 => ?_, fun b W hE3 hb hblk => ?_⟩
              · have g0 := cellG (hE0.cell f0)
                have g1 := cellG (hE0.cell f1)
                have g2 := cellG (hE0.cell f2)
                have g3 := cellG (hE0.cell f3)
                have g4 := cellG (hE0.cell f4)
                simp only [List.take_succ_cons, List.take_zero]
                repeat (go_big_quiet_step (fail))
                refine wpQuiet_nil ?_
                rfl
              · clear w3a w4a w3b w34
                simp only [List.drop_succ_cons, List.drop_zero, Act.put, List.setIfInBounds_toArray, List.set_cons_zero, List.set_cons_succ]
                have hz3 := lt_of_block hblk
                have k0 := cell_of_block hblk 0 _ rfl
                have k1 := cell_of_block hblk 1 _ rfl
                have k2 := cell_of_block hblk 2 _ rfl
                have k3 := cell_of_block hblk 3 _ rfl
                have kf := free_of_block hblk
                go_wp2_with fail
                refine (rrequest_any _ _ _ _ _).mono ?_
                rintro e w4 ⟨rfl, hE4⟩
                have hE5 : Ext w2 w4 := Ext.trans (by repeat' (first | with_reducible exact hE3 | with_reducible refine Ext.setCell ?_ hb _)) hE4
                have m0 := hE4.cell (a := ⟨b, 0, none⟩) (v := .int .i64 y0) (by go_cell)
                have m1 := hE4.cell (a := ⟨b, 1, none⟩) (v := .int .i64 y1) (by go_cell)
                have m2 := hE4.cell (a := ⟨b, 2, none⟩) (v := .int .i64 y2) (by go_cell)
                have m3 := hE4.cell (a := ⟨b, 3, none⟩) (v := .int .u64 (y3 * 4294967296 + y4)) (by go_cell)
                obtain ⟨hc5, hf5⟩ := hE5.rules
                clear hE3 hE4 k0 k1 k2 k3 kf hblk
                rcases hq : reqB y0 y1 y2 with _ | _
                · have HQ := Lib.hid hq
                  clear hq
                  go_wp2
                  refine bodyPost_ret (v := .tuple #[.agg #[.int .i64 0, .int .i64 0, .int .i64 0, .int .u64 0], .int .i64 7]) (by simp [results, Try.results15, go_sem, hc2, hf2, hz2, hc5, hf5]) rfl ?_
                  exact reqPost_no (by rw [HL.out, HR.out]; simp [reqOf, Q3.out, Q4.out, HQ.out]) rfl (by have hX := (((Ext.refl w).alloc _).trans hE2).trans hE5; repeat' (first | with_reducible exact hX | with_reducible refine Ext.setCell ?_ (Nat.le_refl _) _))
                · have HQ := Lib.hid hq
                  clear hq
                  go_wp2
                  refine bodyPost_ret (v := .tuple #[.agg #[.int .i64 y0, .int .i64 y1, .int .i64 y2, .int .u64 (y3 * 4294967296 + y4)], .int .i64 0]) (by simp [results, Try.results15, go_sem, hc2, hf2, hz2, hc5, hf5]) rfl ?_
                  exact reqPost_yes (by rw [HL.out, HR.out]; simp [reqOf, Q3.out, Q4.out, HQ.out]) rfl (by have hX := (((Ext.refl w).alloc _).trans hE2).trans hE5; repeat' (first | with_reducible exact hX | with_reducible refine Ext.setCell ?_ (Nat.le_refl _) _))
        · have h5' : ((l.length : Int) != 5) = true := by simp; omega
          have HR := Lib.hid hr
          have H5 := Lib.hid h5
          clear hr h5
          go_enter Try.func15, Try.ntmps15
          go_wp2_with fail
          refine (rget_any _ _ _ t _ (ht.ext ((Ext.refl w).alloc _))).mono ?_
          intro e w2 hp2
          rw [HR.out] at hp2
          obtain ⟨a2, c2, rfl, ho2, hE2⟩ := hp2
          obtain ⟨hc2, hf2⟩ := hE2.rules
          have hz2 := hE2.sz1
          go_wp2
          refine bodyPost_ret (v := .tuple #[.agg #[.int .i64 0, .int .i64 0, .int .i64 0, .int .u64 0], .int .i64 7]) (by simp [results, Try.results15, go_sem, hc2, hf2, hz2]) rfl ?_
          exact reqPost_no (by rw [HL.out, HR.out]; exact if_neg H5.out) rfl (by have hX := ((Ext.refl w).alloc _).trans hE2; repeat' (first | with_reducible exact hX | with_reducible refine Ext.setCell ?_ (Nat.le_refl _) _))
    · have hk' : (c != 1) = true := by simpa using hk
      have HL : Hid (lreq (c :: t) = none) := by unfold Hid lreq lints; simp only [if_neg hk]; rfl
      clear e1 hk
      go_enter Try.func15, Try.ntmps15
      go_wp2
      go_returns
      exact reqPost_no HL.out (by simp) (((Ext.refl w).alloc _))

end Go.Proofs.Ytcpojkodidflcaa
