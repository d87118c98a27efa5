
import Derived.Test.YtacicanjmleikaaGreatDoorGr10
import Derived.Test.YtacicanjmleikaaGreatDoorGr11
/- A part of the proof. -/
namespace Go.Proofs.YtacicanjmleikaaGreatDoor
open Go.RowKit Go.Sort Go.Shelf
set_option linter.unusedSimpArgs false
set_option linter.unusedVariables false
set_option maxRecDepth 100000
structure En where
 d : Int
 lo : Int
 hi : Int
 deriving DecidableEq
def En.enc (x : En) : List Value := [.int .u64 x.d, .int .i64 x.lo, .int .i64 x.hi]
structure En.Ok (x : En) : Prop where
 d : (Lit.int .u64 x.d).wf = true
 lo : (Lit.int .i64 x.lo).wf = true
 hi : (Lit.int .i64 x.hi).wf = true
instance : Cel En where
 dflt := ⟨0, 0, 0⟩
 sz := 3
 enc := En.enc
 ok := En.Ok
 len := fun _ => rfl
 pos := by decide
 one := by intro x v hv; simp [En.enc] at hv; rcases hv with rfl | rfl | rfl <;> rfl
theorem sz_en : Cel.sz En = 3 := rfl
theorem cells_en {W : World} {b o : Nat} {x : En} (h : W.rangeAt b o (Cel.enc x)) : W.cell? ⟨b, o, none⟩ = some (.int .u64 x.d) ∧ W.cell? ⟨b, o + 1, none⟩ = some (.int .i64 x.lo) ∧ W.cell? ⟨b, o + 2, none⟩ = some (.int .i64 x.hi) :=
 ⟨by simpa using h 0 _ rfl, h 1 _ rfl, h 2 _ rfl⟩
def enV (x : En) : Value := .agg #[.int .u64 x.d, .int .i64 x.lo, .int .i64 x.hi]
def valE (x : En) : Int := fnv (be8 x.d.toNat ++ txt [x.lo, x.hi])
theorem val_rng (x : En) : 0 ≤ valE x ∧ valE x ≤ 18446744073709551615 := fnv_rng _
def ivOk (lo hi : Int) : Bool := decide (0 ≤ lo) && (decide (lo ≤ hi) && decide (hi ≤ 3000000000000000))
theorem ivalid_any (lo hi : Int) (w : World) : Calls Tryz.prog 93 #[.agg #[.int .i64 lo, .int .i64 hi]] w fun e w' => e = .returned (.bool (ivOk lo hi)) ∧ Ext w w' := by
 by_cases h1 : 0 ≤ lo
 ·have g1 : decide (0 ≤ lo) = true := decide_eq_true h1
  by_cases h2 : lo ≤ hi
  ·have g2 : decide (lo ≤ hi) = true := decide_eq_true h2
   have HR := Lib.hid (show ivOk lo hi = decide (hi ≤ 3000000000000000) by simp [ivOk, h1, h2])
   go_enter Tryz.func93, Tryz.ntmps93
   go_wp2_with fail
   go_ret
   rw [HR.out]
   exact ⟨rfl, (Ext.refl w).alloc _⟩
  ·have g2 : decide (lo ≤ hi) = false := decide_eq_false h2
   have HR := Lib.hid (show ivOk lo hi = false by simp [ivOk, h2])
   go_enter Tryz.func93, Tryz.ntmps93
   go_wp2_with fail
   go_ret
   rw [HR.out]
   exact ⟨rfl, (Ext.refl w).alloc _⟩
 ·have g1 : decide (0 ≤ lo) = false := decide_eq_false h1
  have HR := Lib.hid (show ivOk lo hi = false by simp [ivOk, h1])
  go_enter Tryz.func93, Tryz.ntmps93
  go_wp2_with fail
  go_ret
  rw [HR.out]
  exact ⟨rfl, (Ext.refl w).alloc _⟩
theorem rivalid_any (lo hi : Int) (w : World) : Calls Tryz.prog 25 #[.agg #[.int .i64 lo, .int .i64 hi]] w fun e w' => e = .returned (.bool (ivOk lo hi)) ∧ Ext w w' := by
 by_cases h1 : 0 ≤ lo
 ·have g1 : decide (0 ≤ lo) = true := decide_eq_true h1
  by_cases h2 : lo ≤ hi
  ·have g2 : decide (lo ≤ hi) = true := decide_eq_true h2
   have HR := Lib.hid (show ivOk lo hi = decide (hi ≤ 3000000000000000) by simp [ivOk, h1, h2])
   go_enter Tryz.func25, Tryz.ntmps25
   go_wp2_with fail
   go_ret
   rw [HR.out]
   exact ⟨rfl, (Ext.refl w).alloc _⟩
  ·have g2 : decide (lo ≤ hi) = false := decide_eq_false h2
   have HR := Lib.hid (show ivOk lo hi = false by simp [ivOk, h2])
   go_enter Tryz.func25, Tryz.ntmps25
   go_wp2_with fail
   go_ret
   rw [HR.out]
   exact ⟨rfl, (Ext.refl w).alloc _⟩
 ·have g1 : decide (0 ≤ lo) = false := decide_eq_false h1
  have HR := Lib.hid (show ivOk lo hi = false by simp [ivOk, h1])
  go_enter Tryz.func25, Tryz.ntmps25
  go_wp2_with fail
  go_ret
  rw [HR.out]
  exact ⟨rfl, (Ext.refl w).alloc _⟩
theorem lformed_any (x : En) (w : World) : Calls Tryz.prog 57 #[enV x] w fun e w' => e = .returned (.bool (ivOk x.lo x.hi)) ∧ Ext w w' := by
 have HI := Lib.hid (fun W => ivalid_any x.lo x.hi W)
 unfold enV
 have hx : Ext w (w.alloc (.cells #[.int .u64 x.d, .int .i64 x.lo, .int .i64 x.hi] 122)) := (Ext.refl w).alloc _
 go_enter Tryz.func57, Tryz.ntmps57
 go_wp2_with (go_at_call 93; refine (HI.out _).mono ?_; rintro e w1 ⟨rfl, hx1⟩)
 go_ret
 exact ⟨rfl, hx.trans hx1⟩
theorem between_any (n lo hi : Int) (w : World) : Calls Tryz.prog 27 #[.int .i64 n, .int .i64 lo, .int .i64 hi] w fun e w' => e = .returned (.bool (decide (lo ≤ n) && decide (n ≤ hi))) ∧ w = w' := by
 by_cases h1 : lo ≤ n
 ·have g1 : decide (lo ≤ n) = true := decide_eq_true h1
  go_enter Tryz.func27, Tryz.ntmps27
  go_wp2_with fail
  go_ret
  exact ⟨ret_bool (by simp [h1]), rfl⟩
 ·have g1 : decide (lo ≤ n) = false := decide_eq_false h1
  go_enter Tryz.func27, Tryz.ntmps27
  go_wp2_with fail
  go_ret
  exact ⟨ret_bool (by simp [h1]), rfl⟩
theorem between_yes {n lo hi : Int} (h : lo ≤ n ∧ n ≤ hi) (w : World) : Calls Tryz.prog 27 #[.int .i64 n, .int .i64 lo, .int .i64 hi] w fun e w' => e = .returned (.bool true) ∧ w = w' := by
 refine (between_any n lo hi w).mono ?_
 rintro e w' ⟨rfl, rfl⟩
 exact ⟨ret_bool (by simp [h.1, h.2]), rfl⟩
theorem lvalue_any (x : En) (hd : 0 ≤ x.d ∧ x.d ≤ 18446744073709551615) (h1 : (Lit.int .i64 x.lo).wf = true) (h2 : (Lit.int .i64 x.hi).wf = true) (w : World) (ht : TB w) : Calls Tryz.prog 91 #[enV x] w fun e w' => e = .returned (.int .u64 (valE x)) ∧ Ext w w' := by
 unfold enV
 have hB := Bk.new w 122 #[.int .u64 x.d, .int .i64 x.lo, .int .i64 x.hi]
 have hx : Ext w (w.alloc (.cells #[.int .u64 x.d, .int .i64 x.lo, .int .i64 x.hi] 122)) := (Ext.refl w).alloc _
 have HN := Lib.hid (fun (W : World) (hx : Ext w W) a1 c1 (h1 : Sl .i64 W a1 2 c1 [x.lo, x.hi]) => dnext_any x.d hd a1 2 c1 [x.lo, x.hi] W h1 (by omega) (ht.ext hx))
 have HW2 : Hid (∀ z ∈ [x.lo, x.hi], (Lit.int .i64 z).wf = true) := Lib.hid (by intro z hz; simp at hz; rcases hz with rfl | rfl <;> assumption)
 clear ht h1 h2
 go_enter Tryz.func91, Tryz.ntmps91
 go_upto_region 1 with fail
 generalize w.alloc (.cells #[.int .u64 x.d, .int .i64 x.lo, .int .i64 x.hi] 122) = V at *
 obtain ⟨b, hb⟩ : ∃ b, w.heap.size = b := ⟨_, rfl⟩
 rw [hb] at hB ⊢
 clear hb
 have c0 := hB.c 0 _ rfl
 have c1 := hB.c 1 _ rfl
 have c2 := hB.c 2 _ rfl
 have hl := litSl .i64 3 V V.heap.size 2 [x.lo, x.hi] #[.int .i64 x.lo, .int .i64 x.hi] rfl rfl rfl (by simp [maxLen]) HW2.out
 go_wp2_with (go_at_call 104; refine (HN.out _ (hx.alloc _) _ _ hl).mono ?_; rintro e w' ⟨rfl, hx1⟩)
 go_ret
 exact ⟨rfl, (hx.alloc _).trans hx1⟩
theorem oleaf_any (x : En) (hd : 0 ≤ x.d ∧ x.d ≤ 18446744073709551615) (h1 : (Lit.int .i64 x.lo).wf = true) (h2 : (Lit.int .i64 x.hi).wf = true) (w : World) (ht : TB w) : Calls Tryz.prog 55 #[enV x] w fun e w' => e = .returned (.int .u64 (valE x)) ∧ Ext w w' := by
 have hx : Ext w (w.alloc (.cells #[.int .u64 x.d, .int .i64 x.lo, .int .i64 x.hi] 41)) := (Ext.refl w).alloc _
 have HV := Lib.hid (fun (W : World) (hx : Ext w W) => lvalue_any x hd h1 h2 W (ht.ext hx))
 unfold enV at HV ⊢
 clear hd h1 h2 ht
 go_enter Tryz.func55, Tryz.ntmps55
 go_wp2_with (go_at_call 91; refine (HV.out _ hx).mono ?_; rintro e w1 ⟨rfl, hx1⟩)
 go_ret
 exact ⟨rfl, hx.trans hx1⟩
theorem rleaf_any (x : En) (hd : 0 ≤ x.d ∧ x.d ≤ 18446744073709551615) (h1 : (Lit.int .i64 x.lo).wf = true) (h2 : (Lit.int .i64 x.hi).wf = true) (w : World) : Calls Tryz.prog 45 #[enV x] w fun e w' => e = .returned (.int .u64 (valE x)) ∧ Ext w w' := by
 unfold enV
 have hB := Bk.new w 41 #[.int .u64 x.d, .int .i64 x.lo, .int .i64 x.hi]
 have hx : Ext w (w.alloc (.cells #[.int .u64 x.d, .int .i64 x.lo, .int .i64 x.hi] 41)) := (Ext.refl w).alloc _
 have HN := Lib.hid (fun (W : World) a1 c1 (h1 : Sl .i64 W a1 2 c1 [x.lo, x.hi]) => rnext_any x.d hd a1 2 c1 [x.lo, x.hi] W h1 (by omega))
 have HW2 : Hid (∀ z ∈ [x.lo, x.hi], (Lit.int .i64 z).wf = true) := Lib.hid (by intro z hz; simp at hz; rcases hz with rfl | rfl <;> assumption)
 clear h1 h2
 go_enter Tryz.func45, Tryz.ntmps45
 go_upto_region 1 with fail
 generalize w.alloc (.cells #[.int .u64 x.d, .int .i64 x.lo, .int .i64 x.hi] 41) = V at *
 obtain ⟨b, hb⟩ : ∃ b, w.heap.size = b := ⟨_, rfl⟩
 rw [hb] at hB ⊢
 clear hb
 have c0 := hB.c 0 _ rfl
 have c1 := hB.c 1 _ rfl
 have c2 := hB.c 2 _ rfl
 have hl := litSl .i64 3 V V.heap.size 2 [x.lo, x.hi] #[.int .i64 x.lo, .int .i64 x.hi] rfl rfl rfl (by simp [maxLen]) HW2.out
 go_wp2_with (go_at_call 85; refine (HN.out _ _ _ hl).mono ?_; rintro e w' ⟨rfl, hx1⟩)
 go_ret
 exact ⟨rfl, (hx.alloc _).trans hx1⟩
open Go.RowKit Go.Sort Go.Shelf
def vals (es : List En) : List Int := es.map valE
theorem vals_len (es : List En) : (vals es).length = es.length := by simp [vals]
theorem vals_u (es : List En) : U64s (vals es) := by
 intro x hx
 obtain ⟨e, _, rfl⟩ := List.mem_map.1 hx
 have := val_rng e
 simp [Lit.wf, IntKind.min, IntKind.max, IntKind.bits, IntKind.signed]; omega
theorem take_vals_succ {es : List En} {k : Nat} (h : k < es.length) : vals (es.take (k + 1)) = vals (es.take k) ++ [valE (nthR es k)] := by
 rw [take_nthR_succ h]; simp [vals]
theorem en_rng {x : En} (h : x.Ok) : 0 ≤ x.d ∧ x.d ≤ 18446744073709551615 := wf_rng h.d
theorem collect_any (a : Option Addr) (n c : Nat) (es : List En) (w : World) (h : Rw w a n c es) (hn : n ≤ 4096) (ht : TB w) :
  Calls Tryz.prog 54 #[.slice a n c, .func (.func 55) #[] #[]] w fun e w' => ∃ a' c', e = .returned (.slice a' n c') ∧ OwI .u64 25 w.heap.size w' a' n c' (vals es) ∧ Ext w w' := by
 have bd := h.bd
 have HL := Lib.hid h.hlen
 have HT := Lib.hid ht
 have HE := Lib.hid h
 clear h ht
 go_enter Tryz.func54, Tryz.ntmps54
 go_wp2_with fail
 go_loopw [5, 10] (fun o i wr => ∃ (k : Nat) (a' : Option Addr) (c' : Nat), k ≤ n ∧ o = .slice a' k c' ∧ i = .int .i64 k ∧ OwI .u64 25 w.heap.size wr a' k c' (vals (es.take k)) ∧ Hid (Ext w wr)) (fun _ i _ => n - (intOf i).toNat)
 case atStart => exact ⟨0, none, 0, by omega, rfl, rfl, OwI.nil _ _ _ _, Lib.hid (Ext.refl w)⟩
 case round =>
  obtain ⟨k, a', c', hk, rfl, rfl, ho, hx⟩ := hrel
  by_cases hlt : k < n
  ·obtain ⟨x1, o1, rfl, hc1⟩ := HE.out.at (by omega)
   have hr := rangeAt_ext (hc1 k hlt) hx.out
   rw [sz_en] at hr
   have HWF := Lib.hid (HE.out.wfAt hlt)
   have HS := Lib.hid (take_vals_succ (es := es) (k := k) (by rw [HL.out]; exact hlt))
   clear hc1
   generalize nthR es k = x at *
   obtain ⟨d0, d1, d2⟩ := cells_en hr
   clear hr
   have hx9 : Ext wr (wr.alloc (.cells #[.int .u64 x.d, .int .i64 x.lo, .int .i64 x.hi] 41)) := (Ext.refl wr).alloc _
   have hB := Bk.new wr 41 #[.int .u64 x.d, .int .i64 x.lo, .int .i64 x.hi]
   have HLF := Lib.hid (fun (W : World) (hx : Ext w W) => oleaf_any x (en_rng HWF.out) HWF.out.lo HWF.out.hi W (HT.out.ext hx))
   unfold enV at HLF
   go_upto_region 5 with fail
   clear d0 d1 d2
   replace ho := ho.ext hx9
   replace hx := Lib.hid (hx.out.trans hx9)
   clear hx9
   generalize wr.alloc (.cells #[.int .u64 x.d, .int .i64 x.lo, .int .i64 x.hi] 41) = w1 at *
   have c0 := hB.c 0 _ rfl
   have c1 := hB.c 1 _ rfl
   have c2 := hB.c 2 _ rfl
   go_wp2_with (go_at_call 55; refine (HLF.out _ hx.out).mono ?_; rintro e w2 ⟨rfl, hx2⟩; refine hold ?_)
   refine held ?_
   have ho2 := ho.ext hx2
   have hz2 : w.heap.size ≤ w2.heap.size := (hx.out.trans hx2).sz
   go_wp2_with (at_builtin; refine app1 el_u64 rfl _ _ rfl w2 w.heap.size _ _ _ _ (valE x) rfl ho2 rfl hz2 (by unfold maxLen; omega) (by omega) ?_; intro g3 c3 w3 ho3 hB3; refine hold ?_)
   refine held ?_
   have hE3 : Ext w w3 := Below.trans (hx.out.trans hx2) hB3
   clear hB3 ho2 hz2 ho hx2 hx hB c0 c1 c2
   go_wp2_with fail
   refine ⟨⟨k + 1, some ⟨g3, 0, none⟩, c3, by omega, rfl, by go_num, ?_, Lib.hid hE3⟩, by simp only [intOf]; omega⟩
   rw [HS.out]; exact ho3
  ·obtain rfl : n = k := by omega
   have HA : Hid (es.take n = es) := Lib.hid (List.take_of_length_le (by rw [HL.out]; exact Nat.le_refl _))
   rw [HA.out] at ho
   go_wp2_with fail
   go_ret
   exact ⟨a', c', rfl, ho, hx.out⟩
theorem rvalues_any (id : Int) (a : Option Addr) (n c : Nat) (es : List En) (m : Nat) (w : World) (h : Rw w a n c es) (hm : m ≤ n) (hn : n ≤ 4096) :
  Calls Tryz.prog 16 #[.agg #[.int .i64 id, .slice a n c], .int .i64 m] w fun e w' => ∃ a' c', e = .returned (.slice a' m c') ∧ OwI .u64 25 w.heap.size w' a' m c' (vals (es.take m)) ∧ Ext w w' := by
 have bd := h.bd
 have HL := Lib.hid h.hlen
 have HE := Lib.hid h
 have hB := Bk.new w 24 #[.int .i64 id, .slice a n c]
 have hx0 : Ext w (w.alloc (.cells #[.int .i64 id, .slice a n c] 24)) := (Ext.refl w).alloc _
 clear h
 go_enter Tryz.func16, Tryz.ntmps16
 go_upto_region 1 with fail
 have HVW : Hid (w.heap.size < (w.alloc (.cells #[.int .i64 id, .slice a n c] 24)).heap.size ∧ w.heap.size ≤ (w.alloc (.cells #[.int .i64 id, .slice a n c] 24)).heap.size) := Lib.hid ⟨hB.lt, hx0.sz⟩
 generalize w.alloc (.cells #[.int .i64 id, .slice a n c] 24) = V at *
 obtain ⟨b, hb⟩ : ∃ b, w.heap.size = b := ⟨_, rfl⟩
 have HBV : Hid (b < V.heap.size) := Lib.hid (by have := HVW.out; omega)
 rw [hb] at hB ⊢
 clear hb
 go_wp2_with fail
 go_loopw [5, 6] (fun o i wr => ∃ (k : Nat) (a' : Option Addr) (c' : Nat), k ≤ m ∧ o = .slice a' k c' ∧ i = .int .i64 k ∧ OwI .u64 25 V.heap.size wr a' k c' (vals (es.take k)) ∧ Hid (Ext w wr) ∧ Hid (Ext V wr) ∧ Bk wr b 24 #[.int .i64 id, .slice a n c]) (fun _ i _ => m - (intOf i).toNat)
 case atStart => exact ⟨0, none, 0, by omega, rfl, rfl, OwI.nil _ _ _ _, Lib.hid hx0, Lib.hid (Ext.refl V), hB⟩
 case round =>
  clear hB hx0
  obtain ⟨k, a', c', hk, rfl, rfl, ho, hx, hxV, hB⟩ := hrel
  by_cases hlt : k < m
  ·obtain ⟨x1, o1, rfl, hc1⟩ := HE.out.at (by omega)
   have hkn : k < n := by omega
   have hr := rangeAt_ext (hc1 k hkn) hx.out
   rw [sz_en] at hr
   have HWF := Lib.hid (HE.out.wfAt hkn)
   have HS := Lib.hid (take_vals_succ (es := es) (k := k) (by rw [HL.out]; exact hkn))
   clear hc1
   generalize nthR es k = x at *
   obtain ⟨d0, d1, d2⟩ := cells_en hr
   clear hr
   have c1 := hB.c 1 _ rfl
   have HLF := Lib.hid (fun (W : World) => rleaf_any x (en_rng HWF.out) HWF.out.lo HWF.out.hi W)
   unfold enV at HLF
   go_wp2_with (go_at_call 45; refine (HLF.out _).mono ?_; rintro e w2 ⟨rfl, hx2⟩; refine hold ?_)
   refine held ?_
   clear d0 d1 d2 c1
   have ho2 := ho.ext hx2
   have hB2 := hB.ext hx2
   have hz2 : V.heap.size ≤ w2.heap.size := (hxV.out.trans hx2).sz
   go_wp2_with (at_builtin; refine app1 el_u64 rfl _ _ rfl w2 V.heap.size _ _ _ _ (valE x) rfl ho2 rfl hz2 (by unfold maxLen; omega) (by omega) ?_; intro g3 c3 w3 ho3 hB3; refine hold ?_)
   refine held ?_
   have hE3 : Ext w w3 := Below.trans (hx.out.trans hx2) (Below.mono hB3 HVW.out.2)
   have hV3 : Ext V w3 := Below.trans (hxV.out.trans hx2) hB3
   have hB4 := hB2.below hB3 HBV.out
   clear hB3 ho2 hz2 ho hx2 hx hxV hB hB2
   go_wp2_with fail
   refine ⟨⟨k + 1, some ⟨g3, 0, none⟩, c3, by omega, rfl, by go_num, ?_, Lib.hid hE3, Lib.hid hV3, hB4⟩, by simp only [intOf]; omega⟩
   rw [HS.out]; exact ho3
  ·obtain rfl : m = k := by omega
   go_wp2_with fail
   go_ret
   exact ⟨a', c', rfl, ho.mono HVW.out.2, hx.out⟩
def stepO (es : List En) (i : Nat) : Bool := ivOk (nthR es i).lo (nthR es i).hi && (decide (i = 0) || decide ((nthR es (i - 1)).lo ≤ (nthR es i).lo))
def stepsO (es : List En) (n : Nat) : Bool := (List.range n).all (stepO es)
def offB (id : Int) (es : List En) : Bool := decide (1 ≤ id) && (decide (id ≤ 16) && (decide (es.length ≤ 4096) && stepsO es es.length))
theorem stepsO_succ (es : List En) (n : Nat) : stepsO es (n + 1) = (stepsO es n && stepO es n) := by simp [stepsO, List.range_succ]
theorem stepsO_no {es : List En} {n k : Nat} (hk : k < n) (h : stepO es k = false) : stepsO es n = false := by
 rw [Bool.eq_false_iff]
 intro e
 rw [stepsO, List.all_eq_true] at e
 rw [e k (List.mem_range.2 hk)] at h
 cases h
theorem stepsO_at {es : List En} {n k : Nat} (h : stepsO es n = true) (hk : k < n) : stepO es k = true := by
 rw [stepsO, List.all_eq_true] at h
 exact h k (List.mem_range.2 hk)
theorem offB_iff {id : Int} {es : List En} : offB id es = true ↔ (1 ≤ id ∧ id ≤ 16) ∧ es.length ≤ 4096 ∧ stepsO es es.length = true := by
 simp only [offB, Bool.and_eq_true, decide_eq_true_iff, and_assoc]
open Go.RowKit Go.Sort Go.Shelf
set_option maxHeartbeats 2000000 in
theorem rvalidO_any (id : Int) (a : Option Addr) (n c : Nat) (es : List En) (w : World) (h : Rw w a n c es) :
  Calls Tryz.prog 8 #[.agg #[.int .i64 id, .slice a n c]] w fun e w' => e = .returned (.bool (offB id es)) ∧ Ext w w' := by
 have bd := h.bd
 have HL := Lib.hid h.hlen
 have HE := Lib.hid h
 have hB := Bk.new w 24 #[.int .i64 id, .slice a n c]
 have hx0 : Ext w (w.alloc (.cells #[.int .i64 id, .slice a n c] 24)) := (Ext.refl w).alloc _
 clear h
 by_cases hi1 : id < 1
 ·have HF : Hid (offB id es = false) := Lib.hid (by unfold offB; rw [decide_eq_false (by omega)]; rfl)
  have g1 : decide (id < 1) = true := decide_eq_true hi1
  go_enter Tryz.func8, Tryz.ntmps8
  go_wp2_with fail
  go_ret
  rw [HF.out]
  exact ⟨rfl, hx0⟩
 by_cases hi2 : 16 < id
 ·have HF : Hid (offB id es = false) := Lib.hid (by unfold offB; rw [decide_eq_false (show ¬ id ≤ 16 by omega)]; simp)
  have g1 : decide (id < 1) = false := decide_eq_false hi1
  have g2 : decide (16 < id) = true := decide_eq_true hi2
  go_enter Tryz.func8, Tryz.ntmps8
  go_wp2_with fail
  go_ret
  rw [HF.out]
  exact ⟨rfl, hx0⟩
 by_cases hn : 4096 < n
 ·have HF : Hid (offB id es = false) := Lib.hid (by unfold offB; rw [decide_eq_false (show ¬ es.length ≤ 4096 by rw [HL.out]; omega)]; simp)
  have g1 : decide (id < 1) = false := decide_eq_false hi1
  have g2 : decide (16 < id) = false := decide_eq_false hi2
  have g3 : (4096 : Int) < (n : Int) := by omega
  have g4 : decide ((4096 : Int) < (n : Int)) = true := decide_eq_true g3
  go_enter Tryz.func8, Tryz.ntmps8
  go_wp2_with fail
  go_ret
  rw [HF.out]
  exact ⟨rfl, hx0⟩
 have HO : Hid (offB id es = stepsO es n) := Lib.hid (by unfold offB; rw [decide_eq_true (show 1 ≤ id by omega), decide_eq_true (show id ≤ 16 by omega), decide_eq_true (show es.length ≤ 4096 by rw [HL.out]; omega), HL.out]; simp)
 have g1 : decide (id < 1) = false := decide_eq_false hi1
 have g2 : decide (16 < id) = false := decide_eq_false hi2
 have g3 : ¬ (4096 : Int) < (n : Int) := by omega
 have g4 : decide ((4096 : Int) < (n : Int)) = false := decide_eq_false g3
 have g5 : ¬ (4096 < n) := hn
 go_enter Tryz.func8, Tryz.ntmps8
 go_upto_region 3 with fail
 clear g1 g2 g3 g4 g5 hi1 hi2 hn
 generalize w.alloc (.cells #[.int .i64 id, .slice a n c] 24) = V at *
 generalize w.heap.size = b at *
 go_wp2_with fail
 go_loopw [3] (fun i wr => ∃ (k : Nat), k ≤ n ∧ i = .int .i64 k ∧ Hid (stepsO es k = true) ∧ Hid (Ext w wr) ∧ Bk wr b 24 #[.int .i64 id, .slice a n c]) (fun i _ => n - (intOf i).toNat)
 case atStart => exact ⟨0, by omega, rfl, Lib.hid rfl, Lib.hid hx0, hB⟩
 case round =>
  clear hB hx0
  obtain ⟨k, hk, rfl, HV, hx, hB⟩ := hrel
  by_cases hlt : k < n
  ·obtain ⟨x1, o1, rfl, hc1⟩ := HE.out.at (by omega)
   have hr := rangeAt_ext (hc1 k hlt) hx.out
   rw [sz_en] at hr
   have HNX := Lib.hid (fun h : stepO es k = false => stepsO_no (n := n) hlt h)
   have HSU := Lib.hid (stepsO_succ es k)
   have HST : Hid (stepO es k = (ivOk (nthR es k).lo (nthR es k).hi && (decide (k = 0) || decide ((nthR es (k - 1)).lo ≤ (nthR es k).lo)))) := Lib.hid rfl
   rcases Nat.eq_zero_or_pos k with hk0 | hk0
   ·subst hk0
    clear hc1
    generalize nthR es 0 = x at *
    obtain ⟨d0, d1, d2⟩ := cells_en hr
    clear hr
    have c1 := hB.c 1 _ rfl
    have HIV := Lib.hid (fun W => rivalid_any x.lo x.hi W)
    cases hiv : ivOk x.lo x.hi with
    | false =>
     rw [hiv] at HIV HST
     go_wp2_with (go_at_call 25; refine (HIV.out _).mono ?_; rintro e w1 ⟨rfl, hx1⟩; refine hold ?_)
     refine held ?_
     clear d0 d1 d2 c1 hiv
     go_upto_region 7 with fail
     have hg := @grow_cell
     refine region_ext (by kernel_rfl) (by kernel_rfl) ?_
     repeat (go_big_quiet_step (fail))
     refine wpQuiet_nil ?_
     intro w2 hE2
     go_wp2_with fail
     go_ret
     rw [HO.out, HNX.out (by rw [HST.out]; simp)]
     exact ⟨rfl, (hx.out.trans hx1).trans hE2⟩
    | true =>
     rw [hiv] at HIV HST
     go_wp2_with (go_at_call 25; refine (HIV.out _).mono ?_; rintro e w1 ⟨rfl, hx1⟩; refine hold ?_)
     refine held ?_
     clear d0 d1 d2 c1 hiv
     go_upto_region 7 with fail
     have hg := @grow_cell
     refine region_ext (by kernel_rfl) (by kernel_rfl) ?_
     repeat (go_big_quiet_step (fail))
     refine wpQuiet_nil ?_
     intro w2 hE2
     go_wp2_with fail
     refine ⟨⟨1, by omega, by go_num, Lib.hid (by rw [HSU.out, HV.out, HST.out]; simp), Lib.hid ((hx.out.trans hx1).trans hE2), (hB.ext hx1).ext hE2⟩, by simp only [intOf]; omega⟩
   ·have hr2 := rangeAt_ext (hc1 (k - 1) (by omega)) hx.out
    rw [sz_en] at hr2
    clear hc1
    generalize nthR es k = x at *
    generalize nthR es (k - 1) = y at *
    obtain ⟨d0, d1, d2⟩ := cells_en hr
    obtain ⟨_, e1, _⟩ := cells_en hr2
    clear hr hr2
    obtain ⟨m, rfl⟩ : ∃ m, k = m + 1 := ⟨k - 1, by omega⟩
    simp only [Nat.add_sub_cancel] at e1
    have c1 := hB.c 1 _ rfl
    have HIV := Lib.hid (fun W => rivalid_any x.lo x.hi W)
    have hwr : IntKind.i64.wrap ((m : Int) + 1 - 1) = (m : Nat) := by rw [IntKind.wrap_i64]; omega
    have hmn : m < n := by omega
    have hk1 : (0 : Int) < (m : Int) + 1 := by omega
    have hk2 : decide ((0 : Int) < (m : Int) + 1) = true := decide_eq_true hk1
    have hk4 : decide (0 < m + 1) = true := by simp
    cases hiv : ivOk x.lo x.hi with
    | false =>
     rw [hiv] at HIV HST
     go_wp2_with (go_at_call 25; refine (HIV.out _).mono ?_; rintro e w1 ⟨rfl, hx1⟩; refine hold ?_)
     refine held ?_
     clear d0 d1 d2 e1 c1 hiv
     go_upto_region 7 with fail
     have hg := @grow_cell
     refine region_ext (by kernel_rfl) (by kernel_rfl) ?_
     repeat (go_big_quiet_step (fail))
     refine wpQuiet_nil ?_
     intro w2 hE2
     go_wp2_with fail
     go_ret
     rw [HO.out, HNX.out (by rw [HST.out]; simp)]
     exact ⟨rfl, (hx.out.trans hx1).trans hE2⟩
    | true =>
     rw [hiv] at HIV HST
     go_wp2_with (go_at_call 25; refine (HIV.out _).mono ?_; rintro e w1 ⟨rfl, hx1⟩; refine hold ?_)
     refine held ?_
     have d1' := hx1.cell d1
     have e1' := hx1.cell e1
     have hl1 := lt_of_cell d1'
     have hB1 := hB.ext hx1
     have c1' := hB1.c 1 _ rfl
     have hl2 := hB1.lt
     simp only at hl1
     clear d0 d1 d2 e1 c1 hiv
     go_upto_region 7 with fail
     by_cases hyx : y.lo ≤ x.lo
     ·have q1 : decide (x.lo < y.lo) = false := decide_eq_false (by omega)
      have q2 : ¬ (x.lo < y.lo) := by omega
      have hg := @grow_cell
      refine region_ext (by kernel_rfl) (by kernel_rfl) ?_
      repeat (go_big_quiet_step (fail))
      refine wpQuiet_nil ?_
      intro w2 hE2
      clear d1' e1' c1'
      go_wp2_with fail
      refine ⟨⟨m + 1 + 1, by omega, by go_num, Lib.hid (by rw [HSU.out, HV.out, HST.out]; simp [hyx]), Lib.hid ((hx.out.trans hx1).trans hE2), hB1.ext hE2⟩, by simp only [intOf]; omega⟩
     ·have q1 : decide (x.lo < y.lo) = true := decide_eq_true (by omega)
      have q2 : x.lo < y.lo := by omega
      have hg := @grow_cell
      refine region_ext (by kernel_rfl) (by kernel_rfl) ?_
      repeat (go_big_quiet_step (fail))
      refine wpQuiet_nil ?_
      intro w2 hE2
      clear d1' e1' c1'
      go_wp2_with fail
      go_ret
      rw [HO.out, HNX.out (by rw [HST.out]; simp; omega)]
      exact ⟨rfl, (hx.out.trans hx1).trans hE2⟩
  ·obtain rfl : n = k := by omega
   have c1 := hB.c 1 _ rfl
   go_wp2_with fail
   go_ret
   rw [HO.out, HV.out]
   exact ⟨rfl, hx.out⟩
open Go.RowKit Go.Sort Go.Shelf
set_option maxHeartbeats 2000000 in
theorem ovalid_yes (id : Int) (a : Option Addr) (n c : Nat) (es : List En) (w : World) (h : Rw w a n c es) (hv : offB id es = true) :
  Calls Tryz.prog 26 #[.agg #[.int .i64 id, .slice a n c]] w fun e w' => e = .returned (.bool true) ∧ Ext w w' := by
 obtain ⟨hid, hln, hst⟩ := offB_iff.1 hv
 have bd := h.bd
 have hn : n ≤ 4096 := by rw [← h.hlen]; exact hln
 have HST : Hid (stepsO es n = true) := Lib.hid (by rw [← h.hlen]; exact hst)
 have HL := Lib.hid h.hlen
 have HE := Lib.hid h
 have hB := Bk.new w 24 #[.int .i64 id, .slice a n c]
 have hx0 : Ext w (w.alloc (.cells #[.int .i64 id, .slice a n c] 24)) := (Ext.refl w).alloc _
 have HBT := Lib.hid (fun W => between_yes hid W)
 clear h hv hln hst
 go_enter Tryz.func26, Tryz.ntmps26
 go_upto_region 1 with fail
 generalize w.alloc (.cells #[.int .i64 id, .slice a n c] 24) = V at *
 generalize w.heap.size = b at *
 have c1 := hB.c 1 _ rfl
 go_wp2_with fail
 clear c1
 go_loopw [8] (fun i wr => ∃ (k : Nat), k ≤ n ∧ i = .int .i64 k ∧ Hid (Ext w wr) ∧ Bk wr b 24 #[.int .i64 id, .slice a n c]) (fun i _ => n - (intOf i).toNat)
 case atStart => exact ⟨0, by omega, rfl, Lib.hid hx0, hB⟩
 case round =>
  clear hB hx0
  obtain ⟨k, hk, rfl, hx, hB⟩ := hrel
  by_cases hlt : k < n
  ·obtain ⟨x1, o1, rfl, hc1⟩ := HE.out.at (by omega)
   have hr := rangeAt_ext (hc1 k hlt) hx.out
   rw [sz_en] at hr
   have hsk : stepO es k = true := stepsO_at HST.out hlt
   unfold stepO at hsk
   rw [Bool.and_eq_true] at hsk
   obtain ⟨hiv, hord⟩ := hsk
   rcases Nat.eq_zero_or_pos k with hk0 | hk0
   ·have hk1 : ¬ ((0 : Int) < (k : Int)) := by omega
    have hk2 : decide ((0 : Int) < (k : Int)) = false := decide_eq_false hk1
    have hk3 : ¬ (0 < k) := by omega
    have hk4 : decide (0 < k) = false := decide_eq_false hk3
    clear hc1 hord hk0
    generalize nthR es k = x at *
    obtain ⟨d0, d1, d2⟩ := cells_en hr
    clear hr
    have HFM := Lib.hid (fun W => lformed_any x W)
    rw [hiv] at HFM
    unfold enV at HFM
    clear hiv
    have hX := Bk.new wr 41 #[.int .u64 x.d, .int .i64 x.lo, .int .i64 x.hi]
    have hx1 : Ext wr (wr.alloc (.cells #[.int .u64 x.d, .int .i64 x.lo, .int .i64 x.hi] 41)) := (Ext.refl wr).alloc _
    go_upto_region 4 with fail
    clear d0 d1 d2
    replace hB := hB.ext hx1
    generalize wr.alloc (.cells #[.int .u64 x.d, .int .i64 x.lo, .int .i64 x.hi] 41) = w1 at *
    generalize wr.heap.size = b4 at *
    have c0 := hX.c 0 _ rfl
    have c1 := hX.c 1 _ rfl
    have c2 := hX.c 2 _ rfl
    have hl4 := hX.lt
    have hg := @grow_cell
    refine region_ext (by kernel_rfl) (by kernel_rfl) ?_
    repeat (go_big_quiet_step ((go_at_call 57; exact Calls.regrown_of (HFM.out _))))
    refine wpQuiet_nil ?_
    intro w2 hE2
    clear c0 c1 c2 hl4 hg
    go_wp2_with fail
    refine ⟨⟨k + 1, by omega, by go_num, Lib.hid ((hx.out.trans hx1).trans hE2), hB.ext hE2⟩, by simp only [intOf]; omega⟩
   ·have hr2 := rangeAt_ext (hc1 (k - 1) (by omega)) hx.out
    rw [sz_en] at hr2
    rw [show decide (k = 0) = false from decide_eq_false (by omega), Bool.false_or, decide_eq_true_iff] at hord
    clear hc1
    generalize nthR es k = x at *
    generalize nthR es (k - 1) = y at *
    obtain ⟨d0, d1, d2⟩ := cells_en hr
    obtain ⟨_, e1, _⟩ := cells_en hr2
    clear hr hr2
    obtain ⟨m, rfl⟩ : ∃ m, k = m + 1 := ⟨k - 1, by omega⟩
    simp only [Nat.add_sub_cancel] at e1
    have HFM := Lib.hid (fun W => lformed_any x W)
    rw [hiv] at HFM
    unfold enV at HFM
    clear hiv
    have hwr : IntKind.i64.wrap ((m : Int) + 1 - 1) = (m : Nat) := by rw [IntKind.wrap_i64]; omega
    have hmn : m < n := by omega
    have hk1 : (0 : Int) < (m : Int) + 1 := by omega
    have hk2 : decide ((0 : Int) < (m : Int) + 1) = true := decide_eq_true hk1
    have hk4 : decide (0 < m + 1) = true := by simp
    have q1 : decide (x.lo < y.lo) = false := decide_eq_false (by omega)
    have q2 : ¬ (x.lo < y.lo) := by omega
    have hX := Bk.new wr 41 #[.int .u64 x.d, .int .i64 x.lo, .int .i64 x.hi]
    have hx1 : Ext wr (wr.alloc (.cells #[.int .u64 x.d, .int .i64 x.lo, .int .i64 x.hi] 41)) := (Ext.refl wr).alloc _
    go_upto_region 4 with fail
    replace e1 := hx1.cell e1
    clear d0 d1 d2
    replace hB := hB.ext hx1
    generalize wr.alloc (.cells #[.int .u64 x.d, .int .i64 x.lo, .int .i64 x.hi] 41) = w1 at *
    generalize wr.heap.size = b4 at *
    have c0 := hX.c 0 _ rfl
    have c1 := hX.c 1 _ rfl
    have c2 := hX.c 2 _ rfl
    have f1 := hB.c 1 _ rfl
    have hl4 := hX.lt
    have hl5 := hB.lt
    have hl6 := lt_of_cell e1
    simp only at hl6
    have hg := @grow_cell
    refine region_ext (by kernel_rfl) (by kernel_rfl) ?_
    repeat (go_big_quiet_step ((go_at_call 57; exact Calls.regrown_of (HFM.out _))))
    refine wpQuiet_nil ?_
    intro w2 hE2
    clear c0 c1 c2 f1 hl4 hl5 hl6 hg e1
    go_wp2_with fail
    refine ⟨⟨m + 1 + 1, by omega, by go_num, Lib.hid ((hx.out.trans hx1).trans hE2), hB.ext hE2⟩, by simp only [intOf]; omega⟩
  ·obtain rfl : n = k := by omega
   have c0 := hB.c 0 _ rfl
   have c1 := hB.c 1 _ rfl
   have q1 : (n : Int) ≤ 4096 := by omega
   have q2 : decide ((n : Int) ≤ 4096) = true := decide_eq_true q1
   go_wp2_with (go_at_call 27; refine (HBT.out _).mono ?_; rintro e w1 ⟨rfl, rfl⟩)
   go_ret
   exact ⟨rfl, hx.out⟩
open Go.RowKit Go.Sort Go.Shelf
theorem Bk.set5 {W : World} {b : Nat} {T : TypeId} {u0 u1 u2 u3 u4 : Value} (h : Bk W b T #[u0, u1, u2, u3, u4]) (v0 v1 v2 v3 v4 : Value) : Bk (((((W.setCell ⟨b, 0, none⟩ v0).setCell ⟨b, 1, none⟩ v1).setCell ⟨b, 2, none⟩ v2).setCell ⟨b, 3, none⟩ v3).setCell ⟨b, 4, none⟩ v4) b T #[v0, v1, v2, v3, v4] := (((((h.set 0 v0).set 1 v1).set 2 v2).set 3 v3).set 4 v4)
theorem Ext.set5 {w W : World} {b : Nat} (hE : Ext w W) (hb : w.heap.size ≤ b) (v0 v1 v2 v3 v4 : Value) : Ext w (((((W.setCell ⟨b, 0, none⟩ v0).setCell ⟨b, 1, none⟩ v1).setCell ⟨b, 2, none⟩ v2).setCell ⟨b, 3, none⟩ v3).setCell ⟨b, 4, none⟩ v4) := (((((hE.setCell (p := ⟨b, 0, none⟩) hb v0).setCell (p := ⟨b, 1, none⟩) hb v1).setCell (p := ⟨b, 2, none⟩) hb v2).setCell (p := ⟨b, 3, none⟩) hb v3).setCell (p := ⟨b, 4, none⟩) hb v4)
theorem Bk.other5 {W : World} {b p : Nat} {T : TypeId} {cs : Array Value} (h : Bk W b T cs) (hne : p ≠ b) (v0 v1 v2 v3 v4 : Value) : Bk (((((W.setCell ⟨p, 0, none⟩ v0).setCell ⟨p, 1, none⟩ v1).setCell ⟨p, 2, none⟩ v2).setCell ⟨p, 3, none⟩ v3).setCell ⟨p, 4, none⟩ v4) b T cs := (((((h.otherB hne 0 v0).otherB hne 1 v1).otherB hne 2 v2).otherB hne 3 v3).otherB hne 4 v4)
structure Hd where
 o : Int
 s : Int
 r : Int
 C : Int
 S : Int
 deriving DecidableEq
def Hd.enc (h : Hd) : List Value := [.int .i64 h.o, .int .i64 h.s, .int .u64 h.r, .int .i64 h.C, .int .i64 h.S]
structure Hd.Ok (h : Hd) : Prop where
 o : 1 ≤ h.o ∧ h.o ≤ 16
 s : 1 ≤ h.s ∧ h.s ≤ 4096
 r : 0 ≤ h.r ∧ h.r ≤ 18446744073709551615
 C : 0 ≤ h.C ∧ h.C ≤ 1073741788
 S : 0 ≤ h.S ∧ h.S ≤ 1073741788
instance : Cel Hd where
 dflt := ⟨0, 0, 0, 0, 0⟩
 sz := 5
 enc := Hd.enc
 ok := Hd.Ok
 len := fun _ => rfl
 pos := by decide
 one := by intro x v hv; simp [Hd.enc] at hv; rcases hv with rfl | rfl | rfl | rfl | rfl <;> rfl
theorem sz_hd : Cel.sz Hd = 5 := rfl
theorem cells_hd {W : World} {b o : Nat} {x : Hd} (h : W.rangeAt b o (Cel.enc x)) : W.cell? ⟨b, o, none⟩ = some (.int .i64 x.o) ∧ W.cell? ⟨b, o + 1, none⟩ = some (.int .i64 x.s) ∧ W.cell? ⟨b, o + 2, none⟩ = some (.int .u64 x.r) ∧ W.cell? ⟨b, o + 3, none⟩ = some (.int .i64 x.C) ∧ W.cell? ⟨b, o + 4, none⟩ = some (.int .i64 x.S) :=
 ⟨by simpa using h 0 _ rfl, h 1 _ rfl, h 2 _ rfl, h 3 _ rfl, h 4 _ rfl⟩
def hdV (h : Hd) : Value := .agg #[.int .i64 h.o, .int .i64 h.s, .int .u64 h.r, .int .i64 h.C, .int .i64 h.S]
def msgH (o s r : Int) : List Int := [o, s, r / 4294967296, r % 4294967296]
theorem i64_wf {x : Int} (h : -9223372036854775808 ≤ x ∧ x ≤ 9223372036854775807) : (Lit.int .i64 x).wf = true := by simp [Lit.wf, IntKind.min, IntKind.max, IntKind.bits, IntKind.signed]; omega
theorem msg_wf {o s r : Int} (ho : 1 ≤ o ∧ o ≤ 16) (hs : 1 ≤ s ∧ s ≤ 4096) (hr : 0 ≤ r ∧ r ≤ 18446744073709551615) : ∀ x ∈ msgH o s r, (Lit.int .i64 x).wf = true := by
 intro x hx
 simp only [msgH, List.mem_cons, List.not_mem_nil, or_false] at hx
 rcases hx with rfl | rfl | rfl | rfl <;> exact i64_wf (by omega)
theorem omessage_any (h : Hd) (ho : 1 ≤ h.o ∧ h.o ≤ 16) (hs : 1 ≤ h.s ∧ h.s ≤ 4096) (hr : 0 ≤ h.r ∧ h.r ≤ 18446744073709551615) (w : World) :
  Calls Tryz.prog 30 #[hdV h] w fun e w' => ∃ a' c', e = .returned (.slice a' 4 c') ∧ Sl .i64 w' a' 4 c' (msgH h.o h.s h.r) ∧ Ext w w' := by
 unfold hdV
 have hB := Bk.new w 34 #[.int .i64 h.o, .int .i64 h.s, .int .u64 h.r, .int .i64 h.C, .int .i64 h.S]
 have hx : Ext w (w.alloc (.cells #[.int .i64 h.o, .int .i64 h.s, .int .u64 h.r, .int .i64 h.C, .int .i64 h.S] 34)) := (Ext.refl w).alloc _
 have HW := Lib.hid (msg_wf ho hs hr)
 have k1 : IntKind.i64.wrap (h.r / 4294967296) = h.r / 4294967296 := by rw [IntKind.wrap_i64]; omega
 have k3 : IntKind.i64.wrap (h.r % 4294967296) = h.r % 4294967296 := by rw [IntKind.wrap_i64]; omega
 go_enter Tryz.func30, Tryz.ntmps30
 go_upto_region 1 with fail
 generalize w.alloc (.cells #[.int .i64 h.o, .int .i64 h.s, .int .u64 h.r, .int .i64 h.C, .int .i64 h.S] 34) = V at *
 obtain ⟨b, hb⟩ : ∃ b, w.heap.size = b := ⟨_, rfl⟩
 rw [hb] at hB ⊢
 clear hb
 have c0 := hB.c 0 _ rfl
 have c1 := hB.c 1 _ rfl
 have c2 := hB.c 2 _ rfl
 go_wp2_with fail
 go_ret
 exact ⟨_, _, rfl, litSl .i64 3 V V.heap.size 4 (msgH h.o h.s h.r) _ rfl rfl rfl (by simp [msgH, maxLen]) HW.out, hx.alloc _⟩
theorem oroot_any (id : Int) (a : Option Addr) (n c : Nat) (es : List En) (m : Nat) (w : World) (h : Rw w a n c es) (h1 : 1 ≤ m) (hm : m ≤ n) (hn : n ≤ 4096) (ht : TB w) :
  Calls Tryz.prog 28 #[.agg #[.int .i64 id, .slice a n c], .int .i64 m] w fun e w' => e = .returned (.tuple #[.int .u64 (rootT (vals (es.take m))), .int .i64 0]) ∧ Ext w w' := by
 have bd := h.bd
 obtain ⟨x1, o1, rfl, _⟩ := h.at (by omega)
 have hB := Bk.new w 24 #[.int .i64 id, .slice (some ⟨x1, o1, none⟩) n c]
 have hx : Ext w (w.alloc (.cells #[.int .i64 id, .slice (some ⟨x1, o1, none⟩) n c] 24)) := (Ext.refl w).alloc _
 have HC := Lib.hid (fun (W : World) (hx : Ext w W) => collect_any (some ⟨x1, o1, none⟩) m c (es.take m) W ((h.take hm).ext hx) (by omega) (ht.ext hx))
 have HT := Lib.hid ht
 have hm1 : (m : Int) ≤ (c : Int) := by omega
 clear h ht
 go_enter Tryz.func28, Tryz.ntmps28
 go_upto_region 1 with fail
 generalize w.alloc (.cells #[.int .i64 id, .slice (some ⟨x1, o1, none⟩) n c] 24) = V at *
 obtain ⟨b, hb⟩ : ∃ b, w.heap.size = b := ⟨_, rfl⟩
 rw [hb] at hB ⊢
 clear hb
 have c1 := hB.c 1 _ rfl
 go_wp2_with (go_at_call 54; refine (HC.out _ hx).mono ?_; rintro e w2 ⟨a', c', rfl, ho, hx2⟩; refine hold ?_)
 refine held ?_
 obtain ⟨g, rfl, hg⟩ := ho.headU (by omega)
 have hs := ho.sl (vals_u _)
 have HR := Lib.hid (tRoot_any g 0 m c' (vals (es.take m)) w2 h1 (by omega) hs (HT.out.ext (hx.trans hx2)))
 clear c1
 go_wp2_with (go_at_call 15; refine HR.out.mono ?_; rintro e w3 ⟨rfl, hx3⟩)
 go_ret2
 exact ⟨rfl, (hx.trans hx2).trans hx3⟩
theorem res_osign (W : World) (b : Nat) (v0 v1 v2 v3 v4 z : Value) (tmps : Array Value) (hb : tmps[8]?.getD undef = .pointer (some ⟨b, 0, none⟩)) (h9 : tmps[9]?.getD undef = z) (h : Bk W b 34 #[v0, v1, v2, v3, v4]) :
  (results Tryz.f11 tmps).run Tryz.prog W = .ok (.tuple #[.agg #[v0, v1, v2, v3, v4], z]) W := by
 have c0 := h.c 0 _ rfl
 have c1 := h.c 1 _ rfl
 have c2 := h.c 2 _ rfl
 have c3 := h.c 3 _ rfl
 have c4 := h.c 4 _ rfl
 simp [results, Tryz.results11, go_sem, hb, h9, c0, c1, c2, c3, c4]
def sgHd (id : Int) (es : List En) (m key once : Nat) : Hd :=
 ⟨id, m, rootT (vals (es.take m)), sgC key once (msgH id m (rootT (vals (es.take m)))), sgS key once (msgH id m (rootT (vals (es.take m))))⟩
set_option maxHeartbeats 2000000 in
theorem osign_yes (id : Int) (a : Option Addr) (n c : Nat) (es : List En) (m key once : Nat) (w : World) (h : Rw w a n c es) (hv : offB id es = true) (h1 : 1 ≤ m) (hm : m ≤ n) (hk : Sec key) (ho : Sec once) (ht : TB w) :
  Calls Tryz.prog 11 #[.agg #[.int .i64 id, .slice a n c], .int .i64 m, .int .i64 key, .int .i64 once] w fun e w' => e = .returned (.tuple #[hdV (sgHd id es m key once), .int .i64 0]) ∧ Ext w w' := by
 have hid := (offB_iff.1 hv).1
 have hn : n ≤ 4096 := by rw [← h.hlen]; exact (offB_iff.1 hv).2.1
 have bd := h.bd
 have hrr := root_rng (vals (es.take m))
 have HVL := Lib.hid (fun (W : World) (hx : Ext w W) => ovalid_yes id a n c es W (h.ext hx) hv)
 have HRT := Lib.hid (fun (W : World) (hx : Ext w W) => oroot_any id a n c es m W (h.ext hx) h1 hm hn (ht.ext hx))
 have HBT := Lib.hid (fun W => between_yes (n := (m : Int)) (lo := 1) (hi := (n : Int)) (by omega) W)
 have HMS := Lib.hid (fun W => omessage_any ⟨id, m, rootT (vals (es.take m)), 0, 0⟩ hid (by show 1 ≤ (m : Int) ∧ (m : Int) ≤ 4096; omega) hrr W)
 have HSG := Lib.hid (fun (W : World) (hx : Ext w W) a1 c1 (h1 : Sl .i64 W a1 4 c1 (msgH id m (rootT (vals (es.take m))))) => sign_any key once a1 4 c1 _ W h1 (by omega) (ht.ext hx))
 have HE0 := Lib.hid (sgE_ok hk ho)
 have HHD : Hid (sgHd id es m key once = ⟨id, m, rootT (vals (es.take m)), sgC key once (msgH id m (rootT (vals (es.take m)))), sgS key once (msgH id m (rootT (vals (es.take m))))⟩) := Lib.hid rfl
 unfold hdV at HMS
 simp only at HMS
 rw [HE0.out] at HSG
 generalize rootT (vals (es.take m)) = R at *
 generalize sgC key once (msgH id m R) = C at *
 generalize sgS key once (msgH id m R) = S at *
 clear h hv ht hk ho
 have hB := (Bk.new w 24 #[.int .i64 id, .slice a n c]).ext ((Ext.refl _).alloc (.cells #[.int .i64 0, .int .i64 0, .int .u64 0, .int .i64 0, .int .i64 0] 34))
 have hH : Bk ((w.alloc (.cells #[.int .i64 id, .slice a n c] 24)).alloc (.cells #[.int .i64 0, .int .i64 0, .int .u64 0, .int .i64 0, .int .i64 0] 34)) (w.heap.size + 1) 34 #[.int .i64 0, .int .i64 0, .int .u64 0, .int .i64 0, .int .i64 0] := by simpa using Bk.new (w.alloc (.cells #[.int .i64 id, .slice a n c] 24)) 34 #[.int .i64 0, .int .i64 0, .int .u64 0, .int .i64 0, .int .i64 0]
 have hx : Ext w ((w.alloc (.cells #[.int .i64 id, .slice a n c] 24)).alloc (.cells #[.int .i64 0, .int .i64 0, .int .u64 0, .int .i64 0, .int .i64 0] 34)) := ((Ext.refl w).alloc _).alloc _
 go_enter Tryz.func11, Tryz.ntmps11
 go_upto_region 1 with fail
 generalize (w.alloc (.cells #[.int .i64 id, .slice a n c] 24)).alloc (.cells #[.int .i64 0, .int .i64 0, .int .u64 0, .int .i64 0, .int .i64 0] 34) = V at *
 obtain ⟨b, hb⟩ : ∃ b, w.heap.size = b := ⟨_, rfl⟩
 obtain ⟨b8, hb8⟩ : ∃ b8, w.heap.size + 1 = b8 := ⟨_, rfl⟩
 have HBS : Hid (w.heap.size ≤ b ∧ w.heap.size ≤ b8 ∧ b8 ≠ b) := Lib.hid (by omega)
 rw [hb8] at hH
 have hb82 : b + 1 = b8 := by omega
 rw [hb] at hB ⊢
 rw [hb82]
 clear hb hb8 hb82
 have c0 := hB.c 0 _ rfl
 have c1 := hB.c 1 _ rfl
 go_wp2_with (go_at_call 26; refine (HVL.out _ hx).mono ?_; rintro e w1 ⟨rfl, hx1⟩; refine hold ?_)
 refine held ?_
 replace hx := hx.trans hx1
 replace hB := hB.ext hx1
 replace hH := hH.ext hx1
 clear hx1 c0 c1 HVL
 have c0 := hB.c 0 _ rfl
 have c1 := hB.c 1 _ rfl
 go_wp2_with ((first | (go_at_call 27; refine (HBT.out _).mono ?_; rintro e w2 ⟨rfl, rfl⟩) | (go_at_call 28; refine (HRT.out _ hx).mono ?_; rintro e w2 ⟨rfl, hx1⟩; refine hold ?_)))
 refine held ?_
 replace hx := hx.trans hx1
 replace hB := hB.ext hx1
 replace hH := hH.ext hx1
 clear hx1 c0 c1 HRT HBT
 have c0 := hB.c 0 _ rfl
 have hN := Bk.new w2 34 #[.int .i64 id, .int .i64 m, .int .u64 R, .int .i64 0, .int .i64 0]
 have hx1 : Ext w2 (w2.alloc (.cells #[.int .i64 id, .int .i64 m, .int .u64 R, .int .i64 0, .int .i64 0] 34)) := (Ext.refl w2).alloc _
 go_upto_region 7 with fail
 replace hx := hx.trans hx1
 have HNW : Hid (w.heap.size ≤ w2.heap.size ∧ b8 ≠ w2.heap.size ∧ w2.heap.size ≠ b8) := Lib.hid ⟨by have := hx.sz; have := HBS.out; have h9 := hH.lt; have := hB.lt; simp at *; omega, by have h9 := hH.lt; omega, by have h9 := hH.lt; omega⟩
 replace hH := hH.ext hx1
 clear hx1 c0 hB
 generalize w2.alloc (.cells #[.int .i64 id, .int .i64 m, .int .u64 R, .int .i64 0, .int .i64 0] 34) = V3 at *
 generalize w2.heap.size = bn at *
 have k0 := hN.c 0 _ rfl
 have k1 := hN.c 1 _ rfl
 have k2 := hN.c 2 _ rfl
 have k3 := hN.c 3 _ rfl
 have k4 := hN.c 4 _ rfl
 go_wp2_with (go_at_call 30; refine (HMS.out _).mono ?_; rintro e w3 ⟨ma, mc, rfl, hms, hx1⟩; refine hold ?_)
 refine held ?_
 replace hx := hx.trans hx1
 replace hN := hN.ext hx1
 replace hH := hH.ext hx1
 clear hx1 k0 k1 k2 k3 k4 HMS
 go_wp2_with (go_at_call 29; refine (HSG.out _ hx _ _ hms).mono ?_; rintro e w4 ⟨rfl, hx1⟩; refine hold ?_)
 refine held ?_
 replace hx := hx.trans hx1
 replace hN := hN.ext hx1
 replace hH := hH.ext hx1
 clear hx1 hms HSG
 have hS := Bk.new w4 32 #[.int .i64 C, .int .i64 S]
 have hx1 : Ext w4 (w4.alloc (.cells #[.int .i64 C, .int .i64 S] 32)) := (Ext.refl w4).alloc _
 go_upto_region 10 with fail
 replace hx := hx.trans hx1
 replace hN := hN.ext hx1
 replace hH := hH.ext hx1
 clear hx1
 generalize w4.alloc (.cells #[.int .i64 C, .int .i64 S] 32) = V5 at *
 generalize w4.heap.size = bs at *
 have s0 := hS.c 0 _ rfl
 have s1 := hS.c 1 _ rfl
 have k3 := hN.c 3 _ rfl
 have k4 := hN.c 4 _ rfl
 have kf := hN.free
 go_upto_region 11 with fail
 clear s0 s1 k3 k4 kf hS
 have hx3 : Ext w ((V5.setCell ⟨bn, 3, none⟩ (.int .i64 C)).setCell ⟨bn, 4, none⟩ (.int .i64 S)) := (hx.setCell (p := ⟨bn, 3, none⟩) HNW.out.1 _).setCell (p := ⟨bn, 4, none⟩) HNW.out.1 _
 have hN3 : Bk ((V5.setCell ⟨bn, 3, none⟩ (.int .i64 C)).setCell ⟨bn, 4, none⟩ (.int .i64 S)) bn 34 #[.int .i64 id, .int .i64 m, .int .u64 R, .int .i64 C, .int .i64 S] := (hN.set 3 _).set 4 _
 have hH3 := (hH.otherB HNW.out.2.2 3 (.int .i64 C)).otherB HNW.out.2.2 4 (.int .i64 S)
 clear hx hN hH
 generalize (V5.setCell ⟨bn, 3, none⟩ (.int .i64 C)).setCell ⟨bn, 4, none⟩ (.int .i64 S) = V6 at *
 have k0 := hN3.c 0 _ rfl
 have k1 := hN3.c 1 _ rfl
 have k2 := hN3.c 2 _ rfl
 have k3 := hN3.c 3 _ rfl
 have k4 := hN3.c 4 _ rfl
 have q0 := hH3.c 0 _ rfl
 have q1 := hH3.c 1 _ rfl
 have q2 := hH3.c 2 _ rfl
 have q3 := hH3.c 3 _ rfl
 have q4 := hH3.c 4 _ rfl
 have qf := hH3.free
 go_wp2_with fail
 try simp only [Exit.inBlock, Exit.then]
 refine bodyPost_ret (res_osign _ b8 _ _ _ _ _ (.int .i64 0) _ (by rfl) (by rfl) (hH3.set5 (.int .i64 id) (.int .i64 m) (.int .u64 R) (.int .i64 C) (.int .i64 S))) rfl ⟨?_, hx3.set5 HBS.out.2.1 _ _ _ _ _⟩
 rw [HHD.out]
 rfl
open Go.RowKit Go.Sort Go.Shelf
theorem ispub_yes (pub : Int) (hp : pub ≠ 1) (hm : memB pub = true) (w : World) : Calls Tryz.prog 56 #[.int .i64 pub] w fun e w' => e = .returned (.bool true) ∧ Ext w w' := by
 have HM := Lib.hid (fun W => member_any pub W)
 rw [hm] at HM
 have g1 : (pub == 1) = false := by simp [hp]
 go_enter Tryz.func56, Tryz.ntmps56
 go_wp2_with (go_at_call 92; refine (HM.out _).mono ?_; rintro e w' ⟨rfl, hx⟩)
 go_ret
 exact ⟨rfl, hx⟩
theorem hformed_yes (h : Hd) (hk : h.Ok) (w : World) : Calls Tryz.prog 52 #[hdV h] w fun e w' => e = .returned (.bool true) ∧ Ext w w' := by
 unfold hdV
 have hB := Bk.new w 34 #[.int .i64 h.o, .int .i64 h.s, .int .u64 h.r, .int .i64 h.C, .int .i64 h.S]
 have hx : Ext w (w.alloc (.cells #[.int .i64 h.o, .int .i64 h.s, .int .u64 h.r, .int .i64 h.C, .int .i64 h.S] 34)) := (Ext.refl w).alloc _
 have H1 := Lib.hid (fun W => between_yes hk.o W)
 have H2 := Lib.hid (fun W => between_yes hk.s W)
 have H3 := Lib.hid (fun W => between_yes hk.C W)
 have H4 := Lib.hid (fun W => between_yes hk.S W)
 go_enter Tryz.func52, Tryz.ntmps52
 go_upto_region 1 with fail
 generalize w.alloc (.cells #[.int .i64 h.o, .int .i64 h.s, .int .u64 h.r, .int .i64 h.C, .int .i64 h.S] 34) = V at *
 obtain ⟨b, hb⟩ : ∃ b, w.heap.size = b := ⟨_, rfl⟩
 rw [hb] at hB ⊢
 clear hb
 have c0 := hB.c 0 _ rfl
 have c1 := hB.c 1 _ rfl
 have c2 := hB.c 2 _ rfl
 have c3 := hB.c 3 _ rfl
 have c4 := hB.c 4 _ rfl
 go_wp2_with (go_at_call 27; (first | with_reducible refine (H1.out _).mono ?_ | with_reducible refine (H2.out _).mono ?_ | with_reducible refine (H3.out _).mono ?_ | with_reducible refine (H4.out _).mono ?_); rintro e w' ⟨rfl, rfl⟩)
 go_ret
 exact ⟨rfl, hx⟩
def RSl4 (BS : List Int) : Rel Ext := ⟨fun v W => ∃ a c, v = .slice a 4 c ∧ Sl .i64 W a 4 c BS, fun v W W' ⟨a, c, h1, h2⟩ hE => ⟨a, c, h1, h2.ext hE⟩⟩
def rightH (pub : Int) (h : Hd) : Bool := verB pub h.C h.S (msgH h.o h.s h.r)
theorem lenlit10 {vs : List Value} (h : vs.length = 10) : ∃ x0 x1 x2 x3 x4 x5 x6 x7 x8 x9 : Value, vs = [x0, x1, x2, x3, x4, x5, x6, x7, x8, x9] := by
 obtain ⟨x0, v0, rfl, h0⟩ := len_cons h
 obtain ⟨x1, v1, rfl, h1⟩ := len_cons h0
 obtain ⟨x2, v2, rfl, h2⟩ := len_cons h1
 obtain ⟨x3, v3, rfl, h3⟩ := len_cons h2
 obtain ⟨x4, v4, rfl, h4⟩ := len_cons h3
 obtain ⟨x5, v5, rfl, h5⟩ := len_cons h4
 obtain ⟨x6, v6, rfl, h6⟩ := len_cons h5
 obtain ⟨x7, v7, rfl, h7⟩ := len_cons h6
 obtain ⟨x8, v8, rfl, h8⟩ := len_cons h7
 obtain ⟨x9, v9, rfl, h9⟩ := len_cons h8
 obtain rfl := len_nil h9
 exact ⟨x0, x1, x2, x3, x4, x5, x6, x7, x8, x9, rfl⟩
theorem oright_any (pub : Int) (hp : pub ≠ 1) (hm : memB pub = true) (h : Hd) (hk : h.Ok) (w : World) (ht : TB w) :
  Calls Tryz.prog 48 #[.int .i64 pub, hdV h] w fun e w' => e = .returned (.tuple #[.bool (rightH pub h), .int .i64 0]) ∧ Ext w w' := by
 have HPB := Lib.hid (fun W => ispub_yes pub hp hm W)
 have HFM := Lib.hid (fun W => hformed_yes h hk W)
 have HMS := Lib.hid (fun W => omessage_any h hk.o hk.s hk.r W)
 have hvo : vOk pub h.C h.S = true := by
  have := hk.C
  have := hk.S
  unfold vOk inQ
  rw [hm, decide_eq_true (show 0 ≤ h.C by omega), decide_eq_true (show h.C < 1073741789 by omega), decide_eq_true (show 0 ≤ h.S by omega), decide_eq_true (show h.S < 1073741789 by omega)]
  rfl
 have HVF := Lib.hid (fun (W : World) (hx : Ext w W) a1 c1 (h1 : Sl .i64 W a1 4 c1 (msgH h.o h.s h.r)) => verify_any pub h.C h.S a1 4 c1 _ W h1 (by omega) (ht.ext hx))
 have HE0 : Hid (verE pub h.C h.S = 0) := Lib.hid (by unfold verE; rw [hvo]; rfl)
 rw [HE0.out] at HVF
 unfold rightH
 generalize verB pub h.C h.S (msgH h.o h.s h.r) = VB at *
 clear hvo hk hp hm ht
 unfold hdV at *
 have hB := Bk.new w 34 #[.int .i64 h.o, .int .i64 h.s, .int .u64 h.r, .int .i64 h.C, .int .i64 h.S]
 have hx : Ext w (w.alloc (.cells #[.int .i64 h.o, .int .i64 h.s, .int .u64 h.r, .int .i64 h.C, .int .i64 h.S] 34)) := (Ext.refl w).alloc _
 go_enter Tryz.func48, Tryz.ntmps48
 go_upto_region 1 with fail
 generalize w.alloc (.cells #[.int .i64 h.o, .int .i64 h.s, .int .u64 h.r, .int .i64 h.C, .int .i64 h.S] 34) = V at *
 obtain ⟨b, hb⟩ : ∃ b, w.heap.size = b := ⟨_, rfl⟩
 rw [hb] at hB ⊢
 clear hb
 go_wp2_with (go_at_call 56; refine (HPB.out _).mono ?_; rintro e w1 ⟨rfl, hx1⟩; refine hold ?_)
 refine held ?_
 replace hx := hx.trans hx1
 replace hB := hB.ext hx1
 clear hx1
 have c0 := hB.c 0 _ rfl
 have c1 := hB.c 1 _ rfl
 have c2 := hB.c 2 _ rfl
 have c3 := hB.c 3 _ rfl
 have c4 := hB.c 4 _ rfl
 go_wp2_with (go_at_call 52; refine (HFM.out _).mono ?_; rintro e w2 ⟨rfl, hx1⟩; refine hold ?_)
 refine held ?_
 replace hx := hx.trans hx1
 replace hB := hB.ext hx1
 clear hx1 c0 c1 c2 c3 c4
 have HVF := Lib.hid (fun (W : World) (hx2 : Ext w2 W) => HVF.out W (hx.trans hx2))
 go_upto_region 3 with fail
 refine region_rely (S := Ext) (fun W' => Ext w2 W') [some 14, some 15, some 16, some 17, some 18, some 19, some 20, some 21, some 4, some 5] [[], [], [1], [], [3], [0, 2, 4], [5], [5], [6], [7]] [[], [], [], [], [], [], [], [], [], []] [.one ((.int .i64 pub)), .one ((.pointer (some ⟨b, 3, none⟩))), .one ((.agg #[.int .i64 h.C, .int .i64 h.S])), .one ((.agg #[.int .i64 h.o, .int .i64 h.s, .int .u64 h.r, .int .i64 h.C, .int .i64 h.S])), (RSl4 (msgH h.o h.s h.r)), .one ((.tuple #[.bool VB, .int .i64 0])), .one ((.bool VB)), .one ((.int .i64 0)), .one ((.bool VB)), .one ((.int .i64 0))] (by kernel_rfl) (by kernel_rfl) (Ext.refl w2).drew ?_ ?_
 ·refine stepsR_cons ?_ ?_
  ·intro vs W' hl hI hd ho
   refine hold ?_
   obtain ⟨x0, x1, x2, x3, x4, x5, x6, x7, x8, x9, rfl⟩ := lenlit10 hl; clear hl
   refine held ?_
   simp only [putAll, Act.put, List.setIfInBounds_toArray, List.set_cons_succ, List.set_cons_zero]
   go_wp2_with fail
   exact rely_done _ rfl rfl (Ext.refl _) hI
  refine stepsR_cons ?_ ?_
  ·intro vs W' hl hI hd ho
   refine hold ?_
   obtain ⟨x0, x1, x2, x3, x4, x5, x6, x7, x8, x9, rfl⟩ := lenlit10 hl; clear hl
   refine held ?_
   simp only [putAll, Act.put, List.setIfInBounds_toArray, List.set_cons_succ, List.set_cons_zero]
   go_wp2_with fail
   exact rely_done _ rfl rfl (Ext.refl _) hI
  refine stepsR_cons ?_ ?_
  ·intro vs W' hl hI hd ho
   refine hold ?_
   obtain ⟨x0, x1, x2, x3, x4, x5, x6, x7, x8, x9, rfl⟩ := lenlit10 hl; clear hl
   simp only [factsR, atR, List.getElem?_cons_succ, List.getElem?_cons_zero, Rel.one, Rel.blk] at hd
   obtain ⟨rfl, -⟩ := hd
   refine held ?_
   simp only [putAll, Act.put, List.setIfInBounds_toArray, List.set_cons_succ, List.set_cons_zero]
   have hB9 := hB.ext hI
   have k0 := hB9.c 0 _ rfl
   have k1 := hB9.c 1 _ rfl
   have k2 := hB9.c 2 _ rfl
   have k3 := hB9.c 3 _ rfl
   have k4 := hB9.c 4 _ rfl
   go_wp2_with fail
   exact rely_done _ rfl rfl (Ext.refl _) hI
  refine stepsR_cons ?_ ?_
  ·intro vs W' hl hI hd ho
   refine hold ?_
   obtain ⟨x0, x1, x2, x3, x4, x5, x6, x7, x8, x9, rfl⟩ := lenlit10 hl; clear hl
   refine held ?_
   simp only [putAll, Act.put, List.setIfInBounds_toArray, List.set_cons_succ, List.set_cons_zero]
   have hB9 := hB.ext hI
   have k0 := hB9.c 0 _ rfl
   have k1 := hB9.c 1 _ rfl
   have k2 := hB9.c 2 _ rfl
   have k3 := hB9.c 3 _ rfl
   have k4 := hB9.c 4 _ rfl
   go_wp2_with fail
   exact rely_done _ rfl rfl (Ext.refl _) hI
  refine stepsR_cons ?_ ?_
  ·intro vs W' hl hI hd ho
   refine hold ?_
   obtain ⟨x0, x1, x2, x3, x4, x5, x6, x7, x8, x9, rfl⟩ := lenlit10 hl; clear hl
   simp only [factsR, atR, List.getElem?_cons_succ, List.getElem?_cons_zero, Rel.one, Rel.blk] at hd
   obtain ⟨rfl, -⟩ := hd
   refine held ?_
   simp only [putAll, Act.put, List.setIfInBounds_toArray, List.set_cons_succ, List.set_cons_zero]
   go_wp2_with (go_at_call 30; refine (HMS.out _).mono ?_; rintro e W8 ⟨ma, mc, rfl, hms, hx8⟩; refine hold ?_)
   refine held ?_
   go_wp2_with fail
   exact rely_done _ rfl ⟨ma, mc, rfl, hms⟩ hx8 (hI.trans hx8)
  refine stepsR_cons ?_ ?_
  ·intro vs W' hl hI hd ho
   refine hold ?_
   obtain ⟨x0, x1, x2, x3, x4, x5, x6, x7, x8, x9, rfl⟩ := lenlit10 hl; clear hl
   simp only [factsR, atR, List.getElem?_cons_succ, List.getElem?_cons_zero, Rel.one, Rel.blk] at hd
   obtain ⟨rfl, rfl, ⟨ma, mc, rfl, hms⟩, -⟩ := hd
   refine held ?_
   simp only [putAll, Act.put, List.setIfInBounds_toArray, List.set_cons_succ, List.set_cons_zero]
   go_wp2_with (go_at_call 88; refine (HVF.out _ hI _ _ hms).mono ?_; rintro e W8 ⟨rfl, hx8⟩; refine hold ?_)
   refine held ?_
   go_wp2_with fail
   exact rely_done _ rfl rfl hx8 (hI.trans hx8)
  refine stepsR_cons ?_ ?_
  ·intro vs W' hl hI hd ho
   refine hold ?_
   obtain ⟨x0, x1, x2, x3, x4, x5, x6, x7, x8, x9, rfl⟩ := lenlit10 hl; clear hl
   simp only [factsR, atR, List.getElem?_cons_succ, List.getElem?_cons_zero, Rel.one, Rel.blk] at hd
   obtain ⟨rfl, -⟩ := hd
   refine held ?_
   simp only [putAll, Act.put, List.setIfInBounds_toArray, List.set_cons_succ, List.set_cons_zero]
   go_wp2_with fail
   exact rely_done _ rfl rfl (Ext.refl _) hI
  refine stepsR_cons ?_ ?_
  ·intro vs W' hl hI hd ho
   refine hold ?_
   obtain ⟨x0, x1, x2, x3, x4, x5, x6, x7, x8, x9, rfl⟩ := lenlit10 hl; clear hl
   simp only [factsR, atR, List.getElem?_cons_succ, List.getElem?_cons_zero, Rel.one, Rel.blk] at hd
   obtain ⟨rfl, -⟩ := hd
   refine held ?_
   simp only [putAll, Act.put, List.setIfInBounds_toArray, List.set_cons_succ, List.set_cons_zero]
   go_wp2_with fail
   exact rely_done _ rfl rfl (Ext.refl _) hI
  refine stepsR_cons ?_ ?_
  ·intro vs W' hl hI hd ho
   refine hold ?_
   obtain ⟨x0, x1, x2, x3, x4, x5, x6, x7, x8, x9, rfl⟩ := lenlit10 hl; clear hl
   simp only [factsR, atR, List.getElem?_cons_succ, List.getElem?_cons_zero, Rel.one, Rel.blk] at hd
   obtain ⟨rfl, -⟩ := hd
   refine held ?_
   simp only [putAll, Act.put, List.setIfInBounds_toArray, List.set_cons_succ, List.set_cons_zero]
   go_wp2_with fail
   exact rely_done _ rfl rfl (Ext.refl _) hI
  refine stepsR_cons ?_ ?_
  ·intro vs W' hl hI hd ho
   refine hold ?_
   obtain ⟨x0, x1, x2, x3, x4, x5, x6, x7, x8, x9, rfl⟩ := lenlit10 hl; clear hl
   simp only [factsR, atR, List.getElem?_cons_succ, List.getElem?_cons_zero, Rel.one, Rel.blk] at hd
   obtain ⟨rfl, -⟩ := hd
   refine held ?_
   simp only [putAll, Act.put, List.setIfInBounds_toArray, List.set_cons_succ, List.set_cons_zero]
   go_wp2_with fail
   exact rely_done _ rfl rfl (Ext.refl _) hI
  exact trivial
 ·intro vs W' hl hI hd
  obtain ⟨x0, x1, x2, x3, x4, x5, x6, x7, x8, x9, rfl⟩ := lenlit10 hl; clear hl
  simp only [List.length_cons, List.length_nil, List.range, List.range.loop, Nat.zero_add, Nat.reduceAdd, factsR, atR, List.getElem?_cons_succ, List.getElem?_cons_zero, Rel.one, Rel.blk] at hd
  obtain ⟨rfl, rfl, rfl, rfl, ⟨ma, mc, rfl, hms⟩, rfl, rfl, rfl, rfl, rfl, -⟩ := hd
  simp only [putAll, Act.put, List.setIfInBounds_toArray, List.set_cons_succ, List.set_cons_zero]
  go_wp2_with fail
  go_ret2
  exact ⟨rfl, hx.trans hI⟩
end Go.Proofs.YtacicanjmleikaaGreatDoor
