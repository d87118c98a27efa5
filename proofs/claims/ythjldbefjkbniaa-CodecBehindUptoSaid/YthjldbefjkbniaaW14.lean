import Derived.Test.YthjldbefjkbniaaW13
namespace Go.Proofs.Ythjldbefjkbniaa
open Go.RowKit Go.Sort Go.Shelf
set_option linter.unusedSimpArgs false
set_option linter.unusedVariables false
set_option maxRecDepth 100000

def digsF : Nat → Nat → List Int
  | 0, u => [(u : Int)]
  | n + 1, u => if u < 128 then [(u : Int)] else ((u % 128 + 128 : Nat) : Int) :: digsF n (u / 128)

theorem digs_eqF : ∀ (n u : Nat), u < 128 ^ (n + 1) → digs u = digsF n u
  | 0, u, h => digs_small (by omega)
  | n + 1, u, h => by
    unfold digsF
    by_cases hu : u < 128
    · rw [if_pos hu, digs_small hu]
    · rw [if_neg hu, digs_big hu, digs_eqF n (u / 128) (by rw [Nat.pow_succ] at h; omega)]

theorem digs_num_F {n : Int} (h : -9223372036854775808 ≤ n ∧ n ≤ 9223372036854775807) : digs (num n) = digsF 9 (num n) := digs_eqF 9 _ (by have := num_lt h; omega)

def lputF (xs : List Int) : List Int := digsF 9 (num xs.length) ++ xs.flatMap fun x => digsF 9 (num x)

theorem lput_F {xs : List Int} (hw : ∀ x ∈ xs, (Lit.int .i64 x).wf = true) (hl : xs.length ≤ 1100) : lput xs = lputF xs := by
  unfold lput lputF
  rw [digs_num_F (n := xs.length) (by omega)]
  congr 1
  rw [List.flatMap_def, List.flatMap_def]
  congr 1
  exact List.map_congr_left fun x hx => digs_num_F (wf_i64 (hw x hx))

theorem ev1 : lput [0, -1, 1, 64] = [8, 0, 1, 2, 128, 1] := by rw [lput_F (by decide) (by decide)]; decide
theorem ev2 : lput [-9223372036854775808] = [2, 255, 255, 255, 255, 255, 255, 255, 255, 255, 1] := by rw [lput_F (by decide) (by decide)]; decide +kernel
theorem ev3 : lget [8, 0, 1, 2, 128, 1] = some [0, -1, 1, 64] := by decide
theorem ev4 : lget [2, 128, 0] = none := by decide
theorem ev5 : lput [5, 6] = [4, 10, 12] := by rw [lput_F (by decide) (by decide)]; decide
theorem ev6 : (lframe [5, 6]).length = 14 := by rw [lframe_len, ev5]; rfl
theorem ev7 : lframes 16 (lframe [5, 6] ++ [0, 0]) = ([[5, 6]], 14) := by
  unfold lframe
  rw [ev5]
  decide +kernel

theorem litSl (k : IntKind) (E : TypeId) (w : World) (xs : List Int) (cs : Array Value) (hcs : cs.toList = xs.map (Value.int k)) (hm : xs.length ≤ maxLen) (hw : ∀ x ∈ xs, (Lit.int k x).wf = true) :
    Sl k (w.alloc (.cells cs E)) (some ⟨w.heap.size, 0, none⟩) xs.length xs.length xs :=
  (OwI.lit k E w xs (Nat.le_refl _) hm cs hcs).sl hw

theorem litSll (k : IntKind) (E T : TypeId) (w : World) (xs : List Int) (n : Nat) (hn : xs.length = n) (cs : Array Value) (hcs : cs.toList = xs.map (Value.int k)) (hm : xs.length ≤ maxLen) (hw : ∀ x ∈ xs, (Lit.int k x).wf = true) :
    Sll k ((w.alloc (.cells cs E)).alloc (.cells #[.slice (some ⟨w.heap.size, 0, none⟩) n n] T)) (some ⟨w.heap.size + 1, 0, none⟩) 1 1 [xs] := by
  subst hn
  refine ⟨rfl, Nat.le_refl _, by simp [maxLen], fun i hi => ?_⟩
  have h0 : i = 0 := by omega
  subst h0
  have hc := cell_one_new (w.alloc (.cells cs E)) (.slice (some ⟨w.heap.size, 0, none⟩) xs.length xs.length) T 0 _ rfl
  have hs : (w.alloc (.cells cs E)).heap.size = w.heap.size + 1 := by simp
  rw [hs] at hc
  exact ⟨_, 0, _, _, _, rfl, hc, (litSl k E w xs cs hcs hm hw).ext ((Ext.refl _).alloc _)⟩

set_option maxHeartbeats 3000000 in
theorem head_any (w : World) : Calls Try.prog 9 #[] w fun e w' => e = .returned (.bool true) ∧ Ext w w' := by
  go_enter Try.func9, Try.ntmps9
  go_wp2_with fail
  refine (put2_any _ _ _ [0, -1, 1, 64] _ (litSl .i64 3 w [0, -1, 1, 64] _ rfl (by simp [maxLen]) (by decide)) (by decide)).mono ?_
  rintro e w1 ⟨ga, ca, rfl, hoa, hE1⟩
  replace hE1 : Ext w w1 := ((Ext.refl w).alloc _).trans hE1
  have hA := hoa.sl (lput_wf _)
  rw [ev1] at hA ⊢
  clear hoa
  go_wp2_with fail
  refine (put2_any _ _ _ [-9223372036854775808] _ (litSl .i64 3 w1 [-9223372036854775808] _ rfl (by simp [maxLen]) (by decide)) (by decide)).mono ?_
  rintro e w2 ⟨gb, cb, rfl, hob, hE2⟩
  replace hE2 : Ext w1 w2 := ((Ext.refl w1).alloc _).trans hE2
  have hB := hob.sl (lput_wf _)
  rw [ev2] at hB ⊢
  clear hob
  go_wp2_with fail
  refine (get_any _ _ _ [8, 0, 1, 2, 128, 1] _ (litSl .u8 5 w2 [8, 0, 1, 2, 128, 1] _ rfl (by simp [maxLen]) (by decide)) (by decide)).mono ?_
  intro e w3 hp
  rw [ev3] at hp
  obtain ⟨al, cl, rfl, hol, hE3⟩ := hp
  replace hE3 : Ext w2 w3 := ((Ext.refl w2).alloc _).trans hE3
  have hL := hol.sl (by decide)
  clear hol
  go_wp2_with fail
  refine (get_any _ _ _ [2, 128, 0] _ (litSl .u8 5 w3 [2, 128, 0] _ rfl (by simp [maxLen]) (by decide)) (by decide)).mono ?_
  intro e w4 hp
  rw [ev4] at hp
  obtain ⟨rfl, hE4⟩ := hp
  replace hE4 : Ext w3 w4 := ((Ext.refl w3).alloc _).trans hE4
  go_wp2_with fail
  refine (frame_any _ _ _ [5, 6] _ (litSl .i64 3 w4 [5, 6] _ rfl (by simp [maxLen]) (by decide)) (by decide)).mono ?_
  rintro e w5 ⟨gc, cc, rfl, hoc, hE5⟩
  replace hE5 : Ext w4 w5 := ((Ext.refl w4).alloc _).trans hE5
  have hC := hoc.sl (lframe_wf _)
  rw [ev6] at hC ⊢
  clear hoc
  have hcw := Lib.hid (lframe_wf [5, 6])
  have hcl := Lib.hid ev6
  have h7 := Lib.hid ev7
  generalize lframe [5, 6] = FR at *
  have h00 : ∀ x ∈ [(0 : Int), 0], (Lit.int .u8 x).wf = true := by decide
  have H00 := Lib.hid h00
  clear h00
  have hn0 : OwI .u8 5 w5.heap.size (w5.alloc (.cells #[] 5)) (some ⟨w5.heap.size, 0, none⟩) 0 0 [] := OwI.lit .u8 5 w5 [] (Nat.le_refl _) (by simp [maxLen]) #[] rfl
  have hC' := hC.ext ((Ext.refl w5).alloc (.cells #[] 5))
  go_simp
  repeat ((fail_if_success with_reducible (refine holdR ?_)); (first | go_values | go_skip | go_guarded | go_step | go_upon | go_simp))
  go_step
  go_wp2_with (at_builtin; refine appS el_u8 rfl _ _ rfl _ w5.heap.size _ 0 0 [] rfl hn0 _ 14 _ FR rfl hC' (by omega) (by simp) (by unfold maxLen; omega) (by omega) ?_; refine hold ?_)
  refine held ?_
  intro g6 c6 w6 ho6 hB6
  have hE6 : Ext w5 w6 := Below.trans ((Ext.refl w5).alloc (.cells #[] 5)) hB6
  have hs6 : w5.heap.size ≤ w6.heap.size := hE6.size
  clear hn0 hC'
  go_wp2_with (at_builtin; refine appS el_u8 rfl _ _ rfl _ w5.heap.size _ _ _ _ rfl (ho6.kept ((Ext.refl w6).alloc _)) _ 2 2 [0, 0] rfl (litSl .u8 5 w6 [0, 0] _ rfl (by simp [maxLen]) H00.out) (by omega) (by simp; omega) (by unfold maxLen; omega) (by omega) ?_; refine hold ?_)
  refine held ?_
  intro g7 c7 w7 ho7 hB7
  have hE7 : Ext w5 w7 := Below.trans (hE6.trans ((Ext.refl w6).alloc _)) hB7
  have hS7 := ho7.sl (fun x hx => (List.mem_append.1 hx).elim (hcw.out x) (H00.out x))
  clear ho6 ho7 hB6 hB7
  go_wp2_with fail
  have hl8 : (FR ++ [(0 : Int), 0]).length = 16 := by rw [List.length_append, hcl.out]; rfl
  refine (frames_any _ _ _ (FR ++ [0, 0]) _ hS7 (by omega)).mono ?_
  intro e w8 hp
  rw [hl8, h7.out] at hp
  obtain ⟨am, cm, rfl, hom, hE8⟩ := hp
  have hE58 : Ext w5 w8 := hE7.trans hE8
  have hE48 := hE5.trans hE58
  have hE38 := hE4.trans hE48
  have hE28 := hE3.trans hE38
  have hE18 := hE2.trans hE28
  have hA8 := hA.ext hE18
  have hB8 := hB.ext hE28
  have hL8 := hL.ext hE38
  have hE08 := hE1.trans hE18
  have hM := Lib.hid hom
  clear hA hB hL hC hS7 hom hE1 hE2 hE3 hE4 hE5 hE7 hE8 hE58 hE48 hE38 hE28 hE18
  go_wp2_with fail
  refine (same_any _ _ _ _ _ _ [8, 0, 1, 2, 128, 1] [8, 0, 1, 2, 128, 1] _ (hA8.ext ((Ext.refl _).alloc _)) (litSl .u8 5 w8 [8, 0, 1, 2, 128, 1] _ rfl (by simp [maxLen]) (by decide))).mono ?_
  rintro e w9 ⟨he, hE9⟩
  rw [show (([8, 0, 1, 2, 128, 1] : List Int) == [8, 0, 1, 2, 128, 1]) = true from by decide] at he
  subst he
  replace hE9 : Ext w8 w9 := ((Ext.refl _).alloc _).trans hE9
  have hB9 := hB8.ext hE9
  have hL9 := hL8.ext hE9
  clear hA8 hB8 hL8
  go_wp2_with fail
  refine (same_any _ _ _ _ _ _ [2, 255, 255, 255, 255, 255, 255, 255, 255, 255, 1] [2, 255, 255, 255, 255, 255, 255, 255, 255, 255, 1] _ (hB9.ext ((Ext.refl _).alloc _)) (litSl .u8 5 w9 [2, 255, 255, 255, 255, 255, 255, 255, 255, 255, 1] _ rfl (by simp [maxLen]) (by decide))).mono ?_
  rintro e w10 ⟨he, hE10⟩
  rw [show (([2, 255, 255, 255, 255, 255, 255, 255, 255, 255, 1] : List Int) == [2, 255, 255, 255, 255, 255, 255, 255, 255, 255, 1]) = true from by decide] at he
  subst he
  replace hE10 : Ext w9 w10 := ((Ext.refl _).alloc _).trans hE10
  have hL10 := hL9.ext hE10
  clear hB9 hL9
  go_wp2_with fail
  refine (ints_any _ _ _ _ _ _ [0, -1, 1, 64] [0, -1, 1, 64] _ (hL10.ext ((Ext.refl _).alloc _)) (litSl .i64 3 w10 [0, -1, 1, 64] _ rfl (by simp [maxLen]) (by decide))).mono ?_
  rintro e w11 ⟨he, hE11⟩
  rw [show (([0, -1, 1, 64] : List Int) == [0, -1, 1, 64]) = true from by decide] at he
  subst he
  replace hE11 : Ext w10 w11 := ((Ext.refl _).alloc _).trans hE11
  clear hL10
  have hE0 : Ext w w11 := hE08.trans (hE9.trans (hE10.trans hE11))
  have hM11 := hM.out.sll.ext (hE9.trans (hE10.trans hE11))
  clear hM hE08 hE9 hE10 hE11
  have HM := Lib.hid hM11
  clear hM11
  go_wp2_with fail
  refine (lists_any _ _ _ _ _ _ [[5, 6]] [[5, 6]] _ (HM.out.ext (((Ext.refl _).alloc _).alloc _)) (litSll .i64 3 22 w11 [5, 6] 2 rfl _ rfl (by simp [maxLen]) (by decide))).mono ?_
  rintro e w12 ⟨he, hE12⟩
  rw [show (([[5, 6]] : List (List Int)) == [[5, 6]]) = true from by decide] at he
  subst he
  go_wp2
  go_ret
  exact ⟨rfl, hE0.trans ((((Ext.refl _).alloc _).alloc _).trans hE12)⟩

end Go.Proofs.Ythjldbefjkbniaa
