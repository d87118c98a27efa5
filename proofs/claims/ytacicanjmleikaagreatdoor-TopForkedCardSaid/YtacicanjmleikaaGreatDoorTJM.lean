
import Derived.Test.YtacicanjmleikaaGreatDoorTGI
import Derived.Test.YtacicanjmleikaaGreatDoorG8
/-
  Entries and intervals: their form and their values.
-/
namespace Go.Proofs.YtacicanjmleikaaGreatDoor
open Go.RowKit Go.Sort Go.Shelf
set_option linter.unusedSimpArgs false
set_option linter.unusedVariables false
set_option maxRecDepth 100000

structure En where
  d : Int
  lo : Int
  hi : Int
  deriving DecidableEq
def En.enc (x : En) : List Value := [.int .u64 x.d, .int .i64 x.lo, .int .i64 x.hi]
structure En.Ok (x : En) : Prop where
  d : (Lit.int .u64 x.d).wf = true
  lo : (Lit.int .i64 x.lo).wf = true
  hi : (Lit.int .i64 x.hi).wf = true
instance : Cel En where
  dflt := ⟨0, 0, 0⟩
  sz := 3
  enc := En.enc
  ok := En.Ok
  len := fun _ => rfl
  pos := by decide
  one := by intro x v hv; simp [En.enc] at hv; rcases hv with rfl | rfl | rfl <;> rfl
theorem sz_en : Cel.sz En = 3 := rfl
theorem cells_en {W : World} {b o : Nat} {x : En} (h : W.rangeAt b o (Cel.enc x)) : W.cell? ⟨b, o, none⟩ = some (.int .u64 x.d) ∧ W.cell? ⟨b, o + 1, none⟩ = some (.int .i64 x.lo) ∧ W.cell? ⟨b, o + 2, none⟩ = some (.int .i64 x.hi) :=
  ⟨by simpa using h 0 _ rfl, h 1 _ rfl, h 2 _ rfl⟩
def enV (x : En) : Value := .agg #[.int .u64 x.d, .int .i64 x.lo, .int .i64 x.hi]
/-- The value of an entry. -/
def valE (x : En) : Int := fnv (be8 x.d.toNat ++ txt [x.lo, x.hi])
theorem val_rng (x : En) : 0 ≤ valE x ∧ valE x ≤ 18446744073709551615 := fnv_rng _
/-- An interval is well-formed. -/
def ivOk (lo hi : Int) : Bool := decide (0 ≤ lo) && (decide (lo ≤ hi) && decide (hi ≤ 3000000000000000))

def BoolP (w : World) (B : Bool) : Ending → World → Prop := fun e w' => e = .returned (.bool B) ∧ Ext w w'

theorem ivalid_any (lo hi : Int) (w : World) : Calls Tryz.prog 93 #[.agg #[.int .i64 lo, .int .i64 hi]] w fun e w' => e = .returned (.bool (ivOk lo hi)) ∧ Ext w w' := by
  by_cases h1 : 0 ≤ lo
  · have g1 : decide (0 ≤ lo) = true := decide_eq_true h1
    by_cases h2 : lo ≤ hi
    · have g2 : decide (lo ≤ hi) = true := decide_eq_true h2
      have HR := Lib.hid (show ivOk lo hi = decide (hi ≤ 3000000000000000) by simp [ivOk, h1, h2])
      go_enter Tryz.func93, Tryz.ntmps93
      go_wp2_with fail
      go_ret
      rw [HR.out]
      exact ⟨rfl, (Ext.refl w).alloc _⟩
    · have g2 : decide (lo ≤ hi) = false := decide_eq_false h2
      have HR := Lib.hid (show ivOk lo hi = false by simp [ivOk, h2])
      go_enter Tryz.func93, Tryz.ntmps93
      go_wp2_with fail
      go_ret
      rw [HR.out]
      exact ⟨rfl, (Ext.refl w).alloc _⟩
  · have g1 : decide (0 ≤ lo) = false := decide_eq_false h1
    have HR := Lib.hid (show ivOk lo hi = false by simp [ivOk, h1])
    go_enter Tryz.func93, Tryz.ntmps93
    go_wp2_with fail
    go_ret
    rw [HR.out]
    exact ⟨rfl, (Ext.refl w).alloc _⟩
theorem rivalid_any (lo hi : Int) (w : World) : Calls Tryz.prog 25 #[.agg #[.int .i64 lo, .int .i64 hi]] w fun e w' => e = .returned (.bool (ivOk lo hi)) ∧ Ext w w' := by
  by_cases h1 : 0 ≤ lo
  · have g1 : decide (0 ≤ lo) = true := decide_eq_true h1
    by_cases h2 : lo ≤ hi
    · have g2 : decide (lo ≤ hi) = true := decide_eq_true h2
      have HR := Lib.hid (show ivOk lo hi = decide (hi ≤ 3000000000000000) by simp [ivOk, h1, h2])
      go_enter Tryz.func25, Tryz.ntmps25
      go_wp2_with fail
      go_ret
      rw [HR.out]
      exact ⟨rfl, (Ext.refl w).alloc _⟩
    · have g2 : decide (lo ≤ hi) = false := decide_eq_false h2
      have HR := Lib.hid (show ivOk lo hi = false by simp [ivOk, h2])
      go_enter Tryz.func25, Tryz.ntmps25
      go_wp2_with fail
      go_ret
      rw [HR.out]
      exact ⟨rfl, (Ext.refl w).alloc _⟩
  · have g1 : decide (0 ≤ lo) = false := decide_eq_false h1
    have HR := Lib.hid (show ivOk lo hi = false by simp [ivOk, h1])
    go_enter Tryz.func25, Tryz.ntmps25
    go_wp2_with fail
    go_ret
    rw [HR.out]
    exact ⟨rfl, (Ext.refl w).alloc _⟩
theorem lformed_any (x : En) (w : World) : Calls Tryz.prog 57 #[enV x] w fun e w' => e = .returned (.bool (ivOk x.lo x.hi)) ∧ Ext w w' := by
  have HI := Lib.hid (fun W => ivalid_any x.lo x.hi W)
  unfold enV
  have hx : Ext w (w.alloc (.cells #[.int .u64 x.d, .int .i64 x.lo, .int .i64 x.hi] 122)) := (Ext.refl w).alloc _
  go_enter Tryz.func57, Tryz.ntmps57
  go_wp2_with (go_at_call 93; refine (HI.out _).mono ?_; rintro e w1 ⟨rfl, hx1⟩)
  go_ret
  exact ⟨rfl, hx.trans hx1⟩
theorem between_any (n lo hi : Int) (w : World) : Calls Tryz.prog 27 #[.int .i64 n, .int .i64 lo, .int .i64 hi] w fun e w' => e = .returned (.bool (decide (lo ≤ n) && decide (n ≤ hi))) ∧ w = w' := by
  by_cases h1 : lo ≤ n
  · have g1 : decide (lo ≤ n) = true := decide_eq_true h1
    go_enter Tryz.func27, Tryz.ntmps27
    go_wp2_with fail
    go_ret
    exact ⟨ret_bool (by simp [h1]), rfl⟩
  · have g1 : decide (lo ≤ n) = false := decide_eq_false h1
    go_enter Tryz.func27, Tryz.ntmps27
    go_wp2_with fail
    go_ret
    exact ⟨ret_bool (by simp [h1]), rfl⟩
/-- Between is true. -/
theorem between_yes {n lo hi : Int} (h : lo ≤ n ∧ n ≤ hi) (w : World) : Calls Tryz.prog 27 #[.int .i64 n, .int .i64 lo, .int .i64 hi] w fun e w' => e = .returned (.bool true) ∧ w = w' := by
  refine (between_any n lo hi w).mono ?_
  rintro e w' ⟨rfl, rfl⟩
  exact ⟨ret_bool (by simp [h.1, h.2]), rfl⟩
theorem lvalue_any (x : En) (hd : 0 ≤ x.d ∧ x.d ≤ 18446744073709551615) (h1 : (Lit.int .i64 x.lo).wf = true) (h2 : (Lit.int .i64 x.hi).wf = true) (w : World) (ht : TB w) : Calls Tryz.prog 91 #[enV x] w fun e w' => e = .returned (.int .u64 (valE x)) ∧ Ext w w' := by
  unfold enV
  have hB := Bk.new w 122 #[.int .u64 x.d, .int .i64 x.lo, .int .i64 x.hi]
  have hx : Ext w (w.alloc (.cells #[.int .u64 x.d, .int .i64 x.lo, .int .i64 x.hi] 122)) := (Ext.refl w).alloc _
  have HN := Lib.hid (fun (W : World) (hx : Ext w W) a1 c1 (h1 : Sl .i64 W a1 2 c1 [x.lo, x.hi]) => dnext_any x.d hd a1 2 c1 [x.lo, x.hi] W h1 (by omega) (ht.ext hx))
  have HW2 : Hid (∀ z ∈ [x.lo, x.hi], (Lit.int .i64 z).wf = true) := Lib.hid (by intro z hz; simp at hz; rcases hz with rfl | rfl <;> assumption)
  clear ht h1 h2
  go_enter Tryz.func91, Tryz.ntmps91
  go_upto_region 1 with fail
  generalize w.alloc (.cells #[.int .u64 x.d, .int .i64 x.lo, .int .i64 x.hi] 122) = V at *
  obtain ⟨b, hb⟩ : ∃ b, w.heap.size = b := ⟨_, rfl⟩
  rw [hb] at hB ⊢
  clear hb
  have c0 := hB.c 0 _ rfl
  have c1 := hB.c 1 _ rfl
  have c2 := hB.c 2 _ rfl
  have hl := litSl .i64 3 V V.heap.size 2 [x.lo, x.hi] #[.int .i64 x.lo, .int .i64 x.hi] rfl rfl rfl (by simp [maxLen]) HW2.out
  go_wp2_with (go_at_call 104; refine (HN.out _ (hx.alloc _) _ _ hl).mono ?_; rintro e w' ⟨rfl, hx1⟩)
  go_ret
  exact ⟨rfl, (hx.alloc _).trans hx1⟩
theorem oleaf_any (x : En) (hd : 0 ≤ x.d ∧ x.d ≤ 18446744073709551615) (h1 : (Lit.int .i64 x.lo).wf = true) (h2 : (Lit.int .i64 x.hi).wf = true) (w : World) (ht : TB w) : Calls Tryz.prog 55 #[enV x] w fun e w' => e = .returned (.int .u64 (valE x)) ∧ Ext w w' := by
  have hx : Ext w (w.alloc (.cells #[.int .u64 x.d, .int .i64 x.lo, .int .i64 x.hi] 41)) := (Ext.refl w).alloc _
  have HV := Lib.hid (fun (W : World) (hx : Ext w W) => lvalue_any x hd h1 h2 W (ht.ext hx))
  unfold enV at HV ⊢
  clear hd h1 h2 ht
  go_enter Tryz.func55, Tryz.ntmps55
  go_wp2_with (go_at_call 91; refine (HV.out _ hx).mono ?_; rintro e w1 ⟨rfl, hx1⟩)
  go_ret
  exact ⟨rfl, hx.trans hx1⟩
theorem rleaf_any (x : En) (hd : 0 ≤ x.d ∧ x.d ≤ 18446744073709551615) (h1 : (Lit.int .i64 x.lo).wf = true) (h2 : (Lit.int .i64 x.hi).wf = true) (w : World) : Calls Tryz.prog 45 #[enV x] w fun e w' => e = .returned (.int .u64 (valE x)) ∧ Ext w w' := by
  unfold enV
  have hB := Bk.new w 41 #[.int .u64 x.d, .int .i64 x.lo, .int .i64 x.hi]
  have hx : Ext w (w.alloc (.cells #[.int .u64 x.d, .int .i64 x.lo, .int .i64 x.hi] 41)) := (Ext.refl w).alloc _
  have HN := Lib.hid (fun (W : World) a1 c1 (h1 : Sl .i64 W a1 2 c1 [x.lo, x.hi]) => rnext_any x.d hd a1 2 c1 [x.lo, x.hi] W h1 (by omega))
  have HW2 : Hid (∀ z ∈ [x.lo, x.hi], (Lit.int .i64 z).wf = true) := Lib.hid (by intro z hz; simp at hz; rcases hz with rfl | rfl <;> assumption)
  clear h1 h2
  go_enter Tryz.func45, Tryz.ntmps45
  go_upto_region 1 with fail
  generalize w.alloc (.cells #[.int .u64 x.d, .int .i64 x.lo, .int .i64 x.hi] 41) = V at *
  obtain ⟨b, hb⟩ : ∃ b, w.heap.size = b := ⟨_, rfl⟩
  rw [hb] at hB ⊢
  clear hb
  have c0 := hB.c 0 _ rfl
  have c1 := hB.c 1 _ rfl
  have c2 := hB.c 2 _ rfl
  have hl := litSl .i64 3 V V.heap.size 2 [x.lo, x.hi] #[.int .i64 x.lo, .int .i64 x.hi] rfl rfl rfl (by simp [maxLen]) HW2.out
  go_wp2_with (go_at_call 85; refine (HN.out _ _ _ hl).mono ?_; rintro e w' ⟨rfl, hx1⟩)
  go_ret
  exact ⟨rfl, (hx.alloc _).trans hx1⟩
end Go.Proofs.YtacicanjmleikaaGreatDoor

/-
  Offices: the values of their entries, their form. Written by wip/gen_tk.py.
-/
namespace Go.Proofs.YtacicanjmleikaaGreatDoor
open Go.RowKit Go.Sort Go.Shelf
set_option linter.unusedSimpArgs false
set_option linter.unusedVariables false
set_option maxRecDepth 100000

def vals (es : List En) : List Int := es.map valE
theorem vals_len (es : List En) : (vals es).length = es.length := by simp [vals]
theorem vals_u (es : List En) : U64s (vals es) := by
  intro x hx
  obtain ⟨e, _, rfl⟩ := List.mem_map.1 hx
  have := val_rng e
  simp [Lit.wf, IntKind.min, IntKind.max, IntKind.bits, IntKind.signed]; omega
theorem take_vals_succ {es : List En} {k : Nat} (h : k < es.length) : vals (es.take (k + 1)) = vals (es.take k) ++ [valE (nthR es k)] := by
  rw [take_nthR_succ h]; simp [vals]
theorem en_rng {x : En} (h : x.Ok) : 0 ≤ x.d ∧ x.d ≤ 18446744073709551615 := wf_rng h.d

theorem collect_any (a : Option Addr) (n c : Nat) (es : List En) (w : World) (h : Rw w a n c es) (hn : n ≤ 4096) (ht : TB w) :
    Calls Tryz.prog 54 #[.slice a n c, .func (.func 55) #[] #[]] w fun e w' => ∃ a' c', e = .returned (.slice a' n c') ∧ OwI .u64 25 w.heap.size w' a' n c' (vals es) ∧ Ext w w' := by
  have bd := h.bd
  have HL := Lib.hid h.hlen
  have HT := Lib.hid ht
  have HE := Lib.hid h
  clear h ht
  go_enter Tryz.func54, Tryz.ntmps54
  go_wp2_with fail
  go_loopw [5, 10] (fun o i wr => ∃ (k : Nat) (a' : Option Addr) (c' : Nat), k ≤ n ∧ o = .slice a' k c' ∧ i = .int .i64 k ∧ OwI .u64 25 w.heap.size wr a' k c' (vals (es.take k)) ∧ Hid (Ext w wr)) (fun _ i _ => n - (intOf i).toNat)
  case atStart => exact ⟨0, none, 0, by omega, rfl, rfl, OwI.nil _ _ _ _, Lib.hid (Ext.refl w)⟩
  case round =>
    obtain ⟨k, a', c', hk, rfl, rfl, ho, hx⟩ := hrel
    by_cases hlt : k < n
    · obtain ⟨x1, o1, rfl, hc1⟩ := HE.out.at (by omega)
      have hr := rangeAt_ext (hc1 k hlt) hx.out
      rw [sz_en] at hr
      have HWF := Lib.hid (HE.out.wfAt hlt)
      have HS := Lib.hid (take_vals_succ (es := es) (k := k) (by rw [HL.out]; exact hlt))
      clear hc1
      generalize nthR es k = x at *
      obtain ⟨d0, d1, d2⟩ := cells_en hr
      clear hr
      have hx9 : Ext wr (wr.alloc (.cells #[.int .u64 x.d, .int .i64 x.lo, .int .i64 x.hi] 41)) := (Ext.refl wr).alloc _
      have hB := Bk.new wr 41 #[.int .u64 x.d, .int .i64 x.lo, .int .i64 x.hi]
      have HLF := Lib.hid (fun (W : World) (hx : Ext w W) => oleaf_any x (en_rng HWF.out) HWF.out.lo HWF.out.hi W (HT.out.ext hx))
      unfold enV at HLF
      go_upto_region 5 with fail
      clear d0 d1 d2
      replace ho := ho.ext hx9
      replace hx := Lib.hid (hx.out.trans hx9)
      clear hx9
      generalize wr.alloc (.cells #[.int .u64 x.d, .int .i64 x.lo, .int .i64 x.hi] 41) = w1 at *
      have c0 := hB.c 0 _ rfl
      have c1 := hB.c 1 _ rfl
      have c2 := hB.c 2 _ rfl
      go_wp2_with (go_at_call 55; refine (HLF.out _ hx.out).mono ?_; rintro e w2 ⟨rfl, hx2⟩; refine hold ?_)
      refine held ?_
      have ho2 := ho.ext hx2
      have hz2 : w.heap.size ≤ w2.heap.size := (hx.out.trans hx2).sz
      go_wp2_with (at_builtin; refine app1 el_u64 rfl _ _ rfl w2 w.heap.size _ _ _ _ (valE x) rfl ho2 rfl hz2 (by unfold maxLen; omega) (by omega) ?_; intro g3 c3 w3 ho3 hB3; refine hold ?_)
      refine held ?_
      have hE3 : Ext w w3 := Below.trans (hx.out.trans hx2) hB3
      clear hB3 ho2 hz2 ho hx2 hx hB c0 c1 c2
      go_wp2_with fail
      refine ⟨⟨k + 1, some ⟨g3, 0, none⟩, c3, by omega, rfl, by go_num, ?_, Lib.hid hE3⟩, by simp only [intOf]; omega⟩
      rw [HS.out]; exact ho3
    · obtain rfl : n = k := by omega
      have HA : Hid (es.take n = es) := Lib.hid (List.take_of_length_le (by rw [HL.out]; exact Nat.le_refl _))
      rw [HA.out] at ho
      go_wp2_with fail
      go_ret
      exact ⟨a', c', rfl, ho, hx.out⟩

theorem rvalues_any (id : Int) (a : Option Addr) (n c : Nat) (es : List En) (m : Nat) (w : World) (h : Rw w a n c es) (hm : m ≤ n) (hn : n ≤ 4096) :
    Calls Tryz.prog 16 #[.agg #[.int .i64 id, .slice a n c], .int .i64 m] w fun e w' => ∃ a' c', e = .returned (.slice a' m c') ∧ OwI .u64 25 w.heap.size w' a' m c' (vals (es.take m)) ∧ Ext w w' := by
  have bd := h.bd
  have HL := Lib.hid h.hlen
  have HE := Lib.hid h
  have hB := Bk.new w 24 #[.int .i64 id, .slice a n c]
  have hx0 : Ext w (w.alloc (.cells #[.int .i64 id, .slice a n c] 24)) := (Ext.refl w).alloc _
  clear h
  go_enter Tryz.func16, Tryz.ntmps16
  go_upto_region 1 with fail
  have HVW : Hid (w.heap.size < (w.alloc (.cells #[.int .i64 id, .slice a n c] 24)).heap.size ∧ w.heap.size ≤ (w.alloc (.cells #[.int .i64 id, .slice a n c] 24)).heap.size) := Lib.hid ⟨hB.lt, hx0.sz⟩
  generalize w.alloc (.cells #[.int .i64 id, .slice a n c] 24) = V at *
  obtain ⟨b, hb⟩ : ∃ b, w.heap.size = b := ⟨_, rfl⟩
  have HBV : Hid (b < V.heap.size) := Lib.hid (by have := HVW.out; omega)
  rw [hb] at hB ⊢
  clear hb
  go_wp2_with fail
  go_loopw [5, 6] (fun o i wr => ∃ (k : Nat) (a' : Option Addr) (c' : Nat), k ≤ m ∧ o = .slice a' k c' ∧ i = .int .i64 k ∧ OwI .u64 25 V.heap.size wr a' k c' (vals (es.take k)) ∧ Hid (Ext w wr) ∧ Hid (Ext V wr) ∧ Bk wr b 24 #[.int .i64 id, .slice a n c]) (fun _ i _ => m - (intOf i).toNat)
  case atStart => exact ⟨0, none, 0, by omega, rfl, rfl, OwI.nil _ _ _ _, Lib.hid hx0, Lib.hid (Ext.refl V), hB⟩
  case round =>
    clear hB hx0
    obtain ⟨k, a', c', hk, rfl, rfl, ho, hx, hxV, hB⟩ := hrel
    by_cases hlt : k < m
    · obtain ⟨x1, o1, rfl, hc1⟩ := HE.out.at (by omega)
      have hkn : k < n := by omega
      have hr := rangeAt_ext (hc1 k hkn) hx.out
      rw [sz_en] at hr
      have HWF := Lib.hid (HE.out.wfAt hkn)
      have HS := Lib.hid (take_vals_succ (es := es) (k := k) (by rw [HL.out]; exact hkn))
      clear hc1
      generalize nthR es k = x at *
      obtain ⟨d0, d1, d2⟩ := cells_en hr
      clear hr
      have c1 := hB.c 1 _ rfl
      have HLF := Lib.hid (fun (W : World) => rleaf_any x (en_rng HWF.out) HWF.out.lo HWF.out.hi W)
      unfold enV at HLF
      go_wp2_with (go_at_call 45; refine (HLF.out _).mono ?_; rintro e w2 ⟨rfl, hx2⟩; refine hold ?_)
      refine held ?_
      clear d0 d1 d2 c1
      have ho2 := ho.ext hx2
      have hB2 := hB.ext hx2
      have hz2 : V.heap.size ≤ w2.heap.size := (hxV.out.trans hx2).sz
      go_wp2_with (at_builtin; refine app1 el_u64 rfl _ _ rfl w2 V.heap.size _ _ _ _ (valE x) rfl ho2 rfl hz2 (by unfold maxLen; omega) (by omega) ?_; intro g3 c3 w3 ho3 hB3; refine hold ?_)
      refine held ?_
      have hE3 : Ext w w3 := Below.trans (hx.out.trans hx2) (Below.mono hB3 HVW.out.2)
      have hV3 : Ext V w3 := Below.trans (hxV.out.trans hx2) hB3
      have hB4 := hB2.below hB3 HBV.out
      clear hB3 ho2 hz2 ho hx2 hx hxV hB hB2
      go_wp2_with fail
      refine ⟨⟨k + 1, some ⟨g3, 0, none⟩, c3, by omega, rfl, by go_num, ?_, Lib.hid hE3, Lib.hid hV3, hB4⟩, by simp only [intOf]; omega⟩
      rw [HS.out]; exact ho3
    · obtain rfl : m = k := by omega
      go_wp2_with fail
      go_ret
      exact ⟨a', c', rfl, ho.mono HVW.out.2, hx.out⟩

/-- Entry number i is well-formed and not before the one ahead of it. -/
def stepO (es : List En) (i : Nat) : Bool := ivOk (nthR es i).lo (nthR es i).hi && (decide (i = 0) || decide ((nthR es (i - 1)).lo ≤ (nthR es i).lo))
def stepsO (es : List En) (n : Nat) : Bool := (List.range n).all (stepO es)
def offB (id : Int) (es : List En) : Bool := decide (1 ≤ id) && (decide (id ≤ 16) && (decide (es.length ≤ 4096) && stepsO es es.length))
theorem stepsO_succ (es : List En) (n : Nat) : stepsO es (n + 1) = (stepsO es n && stepO es n) := by simp [stepsO, List.range_succ]
theorem stepsO_no {es : List En} {n k : Nat} (hk : k < n) (h : stepO es k = false) : stepsO es n = false := by
  rw [Bool.eq_false_iff]
  intro e
  rw [stepsO, List.all_eq_true] at e
  rw [e k (List.mem_range.2 hk)] at h
  cases h
theorem stepsO_at {es : List En} {n k : Nat} (h : stepsO es n = true) (hk : k < n) : stepO es k = true := by
  rw [stepsO, List.all_eq_true] at h
  exact h k (List.mem_range.2 hk)
theorem offB_iff {id : Int} {es : List En} : offB id es = true ↔ (1 ≤ id ∧ id ≤ 16) ∧ es.length ≤ 4096 ∧ stepsO es es.length = true := by
  simp only [offB, Bool.and_eq_true, decide_eq_true_iff, and_assoc]
end Go.Proofs.YtacicanjmleikaaGreatDoor

/-
  The form of offices, walked. Written by wip/gen_tl.py.
-/
namespace Go.Proofs.YtacicanjmleikaaGreatDoor
open Go.RowKit Go.Sort Go.Shelf
set_option linter.unusedSimpArgs false
set_option linter.unusedVariables false
set_option maxRecDepth 100000

set_option maxHeartbeats 2000000 in
theorem rvalidO_any (id : Int) (a : Option Addr) (n c : Nat) (es : List En) (w : World) (h : Rw w a n c es) :
    Calls Tryz.prog 8 #[.agg #[.int .i64 id, .slice a n c]] w fun e w' => e = .returned (.bool (offB id es)) ∧ Ext w w' := by
  have bd := h.bd
  have HL := Lib.hid h.hlen
  have HE := Lib.hid h
  have hB := Bk.new w 24 #[.int .i64 id, .slice a n c]
  have hx0 : Ext w (w.alloc (.cells #[.int .i64 id, .slice a n c] 24)) := (Ext.refl w).alloc _
  clear h
  by_cases hi1 : id < 1
  · have HF : Hid (offB id es = false) := Lib.hid (by unfold offB; rw [decide_eq_false (by omega)]; rfl)
    have g1 : decide (id < 1) = true := decide_eq_true hi1
    go_enter Tryz.func8, Tryz.ntmps8
    go_wp2_with fail
    go_ret
    rw [HF.out]
    exact ⟨rfl, hx0⟩
  by_cases hi2 : 16 < id
  · have HF : Hid (offB id es = false) := Lib.hid (by unfold offB; rw [decide_eq_false (show ¬ id ≤ 16 by omega)]; simp)
    have g1 : decide (id < 1) = false := decide_eq_false hi1
    have g2 : decide (16 < id) = true := decide_eq_true hi2
    go_enter Tryz.func8, Tryz.ntmps8
    go_wp2_with fail
    go_ret
    rw [HF.out]
    exact ⟨rfl, hx0⟩
  by_cases hn : 4096 < n
  · have HF : Hid (offB id es = false) := Lib.hid (by unfold offB; rw [decide_eq_false (show ¬ es.length ≤ 4096 by rw [HL.out]; omega)]; simp)
    have g1 : decide (id < 1) = false := decide_eq_false hi1
    have g2 : decide (16 < id) = false := decide_eq_false hi2
    have g3 : (4096 : Int) < (n : Int) := by omega
    have g4 : decide ((4096 : Int) < (n : Int)) = true := decide_eq_true g3
    go_enter Tryz.func8, Tryz.ntmps8
    go_wp2_with fail
    go_ret
    rw [HF.out]
    exact ⟨rfl, hx0⟩
  have HO : Hid (offB id es = stepsO es n) := Lib.hid (by unfold offB; rw [decide_eq_true (show 1 ≤ id by omega), decide_eq_true (show id ≤ 16 by omega), decide_eq_true (show es.length ≤ 4096 by rw [HL.out]; omega), HL.out]; simp)
  have g1 : decide (id < 1) = false := decide_eq_false hi1
  have g2 : decide (16 < id) = false := decide_eq_false hi2
  have g3 : ¬ (4096 : Int) < (n : Int) := by omega
  have g4 : decide ((4096 : Int) < (n : Int)) = false := decide_eq_false g3
  have g5 : ¬ (4096 < n) := hn
  go_enter Tryz.func8, Tryz.ntmps8
  go_upto_region 3 with fail
  clear g1 g2 g3 g4 g5 hi1 hi2 hn
  generalize w.alloc (.cells #[.int .i64 id, .slice a n c] 24) = V at *
  generalize w.heap.size = b at *
  go_wp2_with fail
  go_loopw [3] (fun i wr => ∃ (k : Nat), k ≤ n ∧ i = .int .i64 k ∧ Hid (stepsO es k = true) ∧ Hid (Ext w wr) ∧ Bk wr b 24 #[.int .i64 id, .slice a n c]) (fun i _ => n - (intOf i).toNat)
  case atStart => exact ⟨0, by omega, rfl, Lib.hid rfl, Lib.hid hx0, hB⟩
  case round =>
    clear hB hx0
    obtain ⟨k, hk, rfl, HV, hx, hB⟩ := hrel
    by_cases hlt : k < n
    · obtain ⟨x1, o1, rfl, hc1⟩ := HE.out.at (by omega)
      have hr := rangeAt_ext (hc1 k hlt) hx.out
      rw [sz_en] at hr
      have HNX := Lib.hid (fun h : stepO es k = false => stepsO_no (n := n) hlt h)
      have HSU := Lib.hid (stepsO_succ es k)
      have HST : Hid (stepO es k = (ivOk (nthR es k).lo (nthR es k).hi && (decide (k = 0) || decide ((nthR es (k - 1)).lo ≤ (nthR es k).lo)))) := Lib.hid rfl
      rcases Nat.eq_zero_or_pos k with hk0 | hk0
      · subst hk0
        clear hc1
        generalize nthR es 0 = x at *
        obtain ⟨d0, d1, d2⟩ := cells_en hr
        clear hr
        have c1 := hB.c 1 _ rfl
        have HIV := Lib.hid (fun W => rivalid_any x.lo x.hi W)
        cases hiv : ivOk x.lo x.hi with
        | false =>
          rw [hiv] at HIV HST
          go_wp2_with (go_at_call 25; refine (HIV.out _).mono ?_; rintro e w1 ⟨rfl, hx1⟩; refine hold ?_)
          refine held ?_
          clear d0 d1 d2 c1 hiv
          go_upto_region 7 with fail
          have hg := @grow_cell
          refine region_ext (by kernel_rfl) (by kernel_rfl) ?_
          repeat (go_big_quiet_step (fail))
          refine wpQuiet_nil ?_
          intro w2 hE2
          go_wp2_with fail
          go_ret
          rw [HO.out, HNX.out (by rw [HST.out]; simp)]
          exact ⟨rfl, (hx.out.trans hx1).trans hE2⟩
        | true =>
          rw [hiv] at HIV HST
          go_wp2_with (go_at_call 25; refine (HIV.out _).mono ?_; rintro e w1 ⟨rfl, hx1⟩; refine hold ?_)
          refine held ?_
          clear d0 d1 d2 c1 hiv
          go_upto_region 7 with fail
          have hg := @grow_cell
          refine region_ext (by kernel_rfl) (by kernel_rfl) ?_
          repeat (go_big_quiet_step (fail))
          refine wpQuiet_nil ?_
          intro w2 hE2
          go_wp2_with fail
          refine ⟨⟨1, by omega, by go_num, Lib.hid (by rw [HSU.out, HV.out, HST.out]; simp), Lib.hid ((hx.out.trans hx1).trans hE2), (hB.ext hx1).ext hE2⟩, by simp only [intOf]; omega⟩
      · have hr2 := rangeAt_ext (hc1 (k - 1) (by omega)) hx.out
        rw [sz_en] at hr2
        clear hc1
        generalize nthR es k = x at *
        generalize nthR es (k - 1) = y at *
        obtain ⟨d0, d1, d2⟩ := cells_en hr
        obtain ⟨_, e1, _⟩ := cells_en hr2
        clear hr hr2
        obtain ⟨m, rfl⟩ : ∃ m, k = m + 1 := ⟨k - 1, by omega⟩
        simp only [Nat.add_sub_cancel] at e1
        have c1 := hB.c 1 _ rfl
        have HIV := Lib.hid (fun W => rivalid_any x.lo x.hi W)
        have hwr : IntKind.i64.wrap ((m : Int) + 1 - 1) = (m : Nat) := by rw [IntKind.wrap_i64]; omega
        have hmn : m < n := by omega
        have hk1 : (0 : Int) < (m : Int) + 1 := by omega
        have hk2 : decide ((0 : Int) < (m : Int) + 1) = true := decide_eq_true hk1
        have hk4 : decide (0 < m + 1) = true := by simp
        cases hiv : ivOk x.lo x.hi with
        | false =>
          rw [hiv] at HIV HST
          go_wp2_with (go_at_call 25; refine (HIV.out _).mono ?_; rintro e w1 ⟨rfl, hx1⟩; refine hold ?_)
          refine held ?_
          clear d0 d1 d2 e1 c1 hiv
          go_upto_region 7 with fail
          have hg := @grow_cell
          refine region_ext (by kernel_rfl) (by kernel_rfl) ?_
          repeat (go_big_quiet_step (fail))
          refine wpQuiet_nil ?_
          intro w2 hE2
          go_wp2_with fail
          go_ret
          rw [HO.out, HNX.out (by rw [HST.out]; simp)]
          exact ⟨rfl, (hx.out.trans hx1).trans hE2⟩
        | true =>
          rw [hiv] at HIV HST
          go_wp2_with (go_at_call 25; refine (HIV.out _).mono ?_; rintro e w1 ⟨rfl, hx1⟩; refine hold ?_)
          refine held ?_
          have d1' := hx1.cell d1
          have e1' := hx1.cell e1
          have hl1 := lt_of_cell d1'
          have hB1 := hB.ext hx1
          have c1' := hB1.c 1 _ rfl
          have hl2 := hB1.lt
          simp only at hl1
          clear d0 d1 d2 e1 c1 hiv
          go_upto_region 7 with fail
          by_cases hyx : y.lo ≤ x.lo
          · have q1 : decide (x.lo < y.lo) = false := decide_eq_false (by omega)
            have q2 : ¬ (x.lo < y.lo) := by omega
            have hg := @grow_cell
            refine region_ext (by kernel_rfl) (by kernel_rfl) ?_
            repeat (go_big_quiet_step (fail))
            refine wpQuiet_nil ?_
            intro w2 hE2
            clear d1' e1' c1'
            go_wp2_with fail
            refine ⟨⟨m + 1 + 1, by omega, by go_num, Lib.hid (by rw [HSU.out, HV.out, HST.out]; simp [hyx]), Lib.hid ((hx.out.trans hx1).trans hE2), hB1.ext hE2⟩, by simp only [intOf]; omega⟩
          · have q1 : decide (x.lo < y.lo) = true := decide_eq_true (by omega)
            have q2 : x.lo < y.lo := by omega
            have hg := @grow_cell
            refine region_ext (by kernel_rfl) (by kernel_rfl) ?_
            repeat (go_big_quiet_step (fail))
            refine wpQuiet_nil ?_
            intro w2 hE2
            clear d1' e1' c1'
            go_wp2_with fail
            go_ret
            rw [HO.out, HNX.out (by rw [HST.out]; simp; omega)]
            exact ⟨rfl, (hx.out.trans hx1).trans hE2⟩
    · obtain rfl : n = k := by omega
      have c1 := hB.c 1 _ rfl
      go_wp2_with fail
      go_ret
      rw [HO.out, HV.out]
      exact ⟨rfl, hx.out⟩
end Go.Proofs.YtacicanjmleikaaGreatDoor

/-
  A valid office is valid; the index of a document, walked. Written by wip/gen_tl2.py.
-/
namespace Go.Proofs.YtacicanjmleikaaGreatDoor
open Go.RowKit Go.Sort Go.Shelf
set_option linter.unusedSimpArgs false
set_option linter.unusedVariables false
set_option maxRecDepth 100000

set_option maxHeartbeats 2000000 in
theorem ovalid_yes (id : Int) (a : Option Addr) (n c : Nat) (es : List En) (w : World) (h : Rw w a n c es) (hv : offB id es = true) :
    Calls Tryz.prog 26 #[.agg #[.int .i64 id, .slice a n c]] w fun e w' => e = .returned (.bool true) ∧ Ext w w' := by
  obtain ⟨hid, hln, hst⟩ := offB_iff.1 hv
  have bd := h.bd
  have hn : n ≤ 4096 := by rw [← h.hlen]; exact hln
  have HST : Hid (stepsO es n = true) := Lib.hid (by rw [← h.hlen]; exact hst)
  have HL := Lib.hid h.hlen
  have HE := Lib.hid h
  have hB := Bk.new w 24 #[.int .i64 id, .slice a n c]
  have hx0 : Ext w (w.alloc (.cells #[.int .i64 id, .slice a n c] 24)) := (Ext.refl w).alloc _
  have HBT := Lib.hid (fun W => between_yes hid W)
  clear h hv hln hst
  go_enter Tryz.func26, Tryz.ntmps26
  go_upto_region 1 with fail
  generalize w.alloc (.cells #[.int .i64 id, .slice a n c] 24) = V at *
  generalize w.heap.size = b at *
  have c1 := hB.c 1 _ rfl
  go_wp2_with fail
  clear c1
  go_loopw [8] (fun i wr => ∃ (k : Nat), k ≤ n ∧ i = .int .i64 k ∧ Hid (Ext w wr) ∧ Bk wr b 24 #[.int .i64 id, .slice a n c]) (fun i _ => n - (intOf i).toNat)
  case atStart => exact ⟨0, by omega, rfl, Lib.hid hx0, hB⟩
  case round =>
    clear hB hx0
    obtain ⟨k, hk, rfl, hx, hB⟩ := hrel
    by_cases hlt : k < n
    · obtain ⟨x1, o1, rfl, hc1⟩ := HE.out.at (by omega)
      have hr := rangeAt_ext (hc1 k hlt) hx.out
      rw [sz_en] at hr
      have hsk : stepO es k = true := stepsO_at HST.out hlt
      unfold stepO at hsk
      rw [Bool.and_eq_true] at hsk
      obtain ⟨hiv, hord⟩ := hsk
      rcases Nat.eq_zero_or_pos k with hk0 | hk0
      · have hk1 : ¬ ((0 : Int) < (k : Int)) := by omega
        have hk2 : decide ((0 : Int) < (k : Int)) = false := decide_eq_false hk1
        have hk3 : ¬ (0 < k) := by omega
        have hk4 : decide (0 < k) = false := decide_eq_false hk3
        clear hc1 hord hk0
        generalize nthR es k = x at *
        obtain ⟨d0, d1, d2⟩ := cells_en hr
        clear hr
        have HFM := Lib.hid (fun W => lformed_any x W)
        rw [hiv] at HFM
        unfold enV at HFM
        clear hiv
        have hX := Bk.new wr 41 #[.int .u64 x.d, .int .i64 x.lo, .int .i64 x.hi]
        have hx1 : Ext wr (wr.alloc (.cells #[.int .u64 x.d, .int .i64 x.lo, .int .i64 x.hi] 41)) := (Ext.refl wr).alloc _
        go_upto_region 4 with fail
        clear d0 d1 d2
        replace hB := hB.ext hx1
        generalize wr.alloc (.cells #[.int .u64 x.d, .int .i64 x.lo, .int .i64 x.hi] 41) = w1 at *
        generalize wr.heap.size = b4 at *
        have c0 := hX.c 0 _ rfl
        have c1 := hX.c 1 _ rfl
        have c2 := hX.c 2 _ rfl
        have hl4 := hX.lt
        have hg := @grow_cell
        refine region_ext (by kernel_rfl) (by kernel_rfl) ?_
        repeat (go_big_quiet_step ((go_at_call 57; exact Calls.regrown_of (HFM.out _))))
        refine wpQuiet_nil ?_
        intro w2 hE2
        clear c0 c1 c2 hl4 hg
        go_wp2_with fail
        refine ⟨⟨k + 1, by omega, by go_num, Lib.hid ((hx.out.trans hx1).trans hE2), hB.ext hE2⟩, by simp only [intOf]; omega⟩
      · have hr2 := rangeAt_ext (hc1 (k - 1) (by omega)) hx.out
        rw [sz_en] at hr2
        rw [show decide (k = 0) = false from decide_eq_false (by omega), Bool.false_or, decide_eq_true_iff] at hord
        clear hc1
        generalize nthR es k = x at *
        generalize nthR es (k - 1) = y at *
        obtain ⟨d0, d1, d2⟩ := cells_en hr
        obtain ⟨_, e1, _⟩ := cells_en hr2
        clear hr hr2
        obtain ⟨m, rfl⟩ : ∃ m, k = m + 1 := ⟨k - 1, by omega⟩
        simp only [Nat.add_sub_cancel] at e1
        have HFM := Lib.hid (fun W => lformed_any x W)
        rw [hiv] at HFM
        unfold enV at HFM
        clear hiv
        have hwr : IntKind.i64.wrap ((m : Int) + 1 - 1) = (m : Nat) := by rw [IntKind.wrap_i64]; omega
        have hmn : m < n := by omega
        have hk1 : (0 : Int) < (m : Int) + 1 := by omega
        have hk2 : decide ((0 : Int) < (m : Int) + 1) = true := decide_eq_true hk1
        have hk4 : decide (0 < m + 1) = true := by simp
        have q1 : decide (x.lo < y.lo) = false := decide_eq_false (by omega)
        have q2 : ¬ (x.lo < y.lo) := by omega
        have hX := Bk.new wr 41 #[.int .u64 x.d, .int .i64 x.lo, .int .i64 x.hi]
        have hx1 : Ext wr (wr.alloc (.cells #[.int .u64 x.d, .int .i64 x.lo, .int .i64 x.hi] 41)) := (Ext.refl wr).alloc _
        go_upto_region 4 with fail
        replace e1 := hx1.cell e1
        clear d0 d1 d2
        replace hB := hB.ext hx1
        generalize wr.alloc (.cells #[.int .u64 x.d, .int .i64 x.lo, .int .i64 x.hi] 41) = w1 at *
        generalize wr.heap.size = b4 at *
        have c0 := hX.c 0 _ rfl
        have c1 := hX.c 1 _ rfl
        have c2 := hX.c 2 _ rfl
        have f1 := hB.c 1 _ rfl
        have hl4 := hX.lt
        have hl5 := hB.lt
        have hl6 := lt_of_cell e1
        simp only at hl6
        have hg := @grow_cell
        refine region_ext (by kernel_rfl) (by kernel_rfl) ?_
        repeat (go_big_quiet_step ((go_at_call 57; exact Calls.regrown_of (HFM.out _))))
        refine wpQuiet_nil ?_
        intro w2 hE2
        clear c0 c1 c2 f1 hl4 hl5 hl6 hg e1
        go_wp2_with fail
        refine ⟨⟨m + 1 + 1, by omega, by go_num, Lib.hid ((hx.out.trans hx1).trans hE2), hB.ext hE2⟩, by simp only [intOf]; omega⟩
    · obtain rfl : n = k := by omega
      have c0 := hB.c 0 _ rfl
      have c1 := hB.c 1 _ rfl
      have q1 : (n : Int) ≤ 4096 := by omega
      have q2 : decide ((n : Int) ≤ 4096) = true := decide_eq_true q1
      go_wp2_with (go_at_call 27; refine (HBT.out _).mono ?_; rintro e w1 ⟨rfl, rfl⟩)
      go_ret
      exact ⟨rfl, hx.out⟩

/-- The index of the only entry with a document among the first k, or -1; and whether there is more than one so far (then none). -/
def idxOf (es : List En) (doc : Int) : Nat → Option Int
  | 0 => some (-1)
  | k + 1 => match idxOf es doc k with
    | none => none
    | some at_ => if (nthR es k).d = doc then (if 0 ≤ at_ then none else some k) else some at_
def idxV (es : List En) (doc : Int) : Int := (idxOf es doc es.length).getD (-1)
theorem idxOf_none {es : List En} {doc : Int} {k n : Nat} (h : idxOf es doc k = none) (hk : k ≤ n) : idxOf es doc n = none := by
  induction n with
  | zero => obtain rfl : k = 0 := by omega
            exact h
  | succ n ih =>
    rcases Nat.lt_or_ge k (n + 1) with h1 | h1
    · rw [idxOf, ih (by omega)]
    · obtain rfl : k = n + 1 := by omega
      exact h
theorem idxOf_bd {es : List En} {doc : Int} : ∀ {k : Nat} {z : Int}, idxOf es doc k = some z → -1 ≤ z ∧ z < k
  | 0, z, h => by simp [idxOf] at h; omega
  | k + 1, z, h => by
    unfold idxOf at h
    cases h0 : idxOf es doc k with
    | none => rw [h0] at h; simp at h
    | some y =>
      rw [h0] at h
      have := idxOf_bd h0
      simp only at h
      split at h
      · split at h
        · simp at h
        · simp at h; omega
      · simp at h; omega
theorem r7index_any (id : Int) (a : Option Addr) (n c : Nat) (es : List En) (doc : Int) (w : World) (h : Rw w a n c es) (hn : n ≤ 40) :
    Calls Tryz.prog 9 #[.agg #[.int .i64 id, .slice a n c], .int .u64 doc] w fun e w' => e = .returned (.int .i64 (idxV es doc)) ∧ Ext w w' := by
  have bd := h.bd
  have HL := Lib.hid h.hlen
  have HE := Lib.hid h
  have hB := Bk.new w 24 #[.int .i64 id, .slice a n c]
  have hx0 : Ext w (w.alloc (.cells #[.int .i64 id, .slice a n c] 24)) := (Ext.refl w).alloc _
  clear h
  go_enter Tryz.func9, Tryz.ntmps9
  go_upto_region 1 with fail
  generalize w.alloc (.cells #[.int .i64 id, .slice a n c] 24) = V at *
  generalize w.heap.size = b at *
  go_wp2_with fail
  go_loopw [5, 6] (fun z i wr => ∃ (k : Nat) (y : Int), k ≤ n ∧ z = .int .i64 y ∧ i = .int .i64 k ∧ Hid (idxOf es doc k = some y) ∧ Hid (Ext w wr) ∧ Bk wr b 24 #[.int .i64 id, .slice a n c]) (fun _ i _ => n - (intOf i).toNat)
  case atStart => exact ⟨0, -1, by omega, rfl, rfl, Lib.hid rfl, Lib.hid hx0, hB⟩
  case round =>
    clear hB hx0
    obtain ⟨k, y, hk, rfl, rfl, HI, hx, hB⟩ := hrel
    have c1 := hB.c 1 _ rfl
    by_cases hlt : k < n
    · obtain ⟨x1, o1, rfl, hc1⟩ := HE.out.at (by omega)
      have hr := rangeAt_ext (hc1 k hlt) hx.out
      rw [sz_en] at hr
      have HSU : Hid (idxOf es doc (k + 1) = if (nthR es k).d = doc then (if 0 ≤ y then none else some (k : Int)) else some y) := Lib.hid (by rw [idxOf, HI.out])
      clear hc1
      generalize nthR es k = x at *
      obtain ⟨d0, d1, d2⟩ := cells_en hr
      clear hr
      by_cases hxd : x.d = doc
      · have g1 : (x.d == doc) = true := by simp [hxd]
        by_cases hy : 0 ≤ y
        · have g2 : decide (0 ≤ y) = true := decide_eq_true hy
          have HF : Hid (idxV es doc = -1) := Lib.hid (by unfold idxV; rw [idxOf_none (k := k + 1) (by rw [HSU.out, if_pos hxd, if_pos hy]) (by rw [HL.out]; omega)]; rfl)
          clear hxd
          go_wp2_with fail
          go_ret
          rw [HF.out]
          exact ⟨rfl, hx.out⟩
        · have g2 : decide (0 ≤ y) = false := decide_eq_false hy
          have HS2 : Hid (idxOf es doc (k + 1) = some (k : Int)) := Lib.hid (by rw [HSU.out, if_pos hxd, if_neg hy])
          clear hxd
          go_wp2_with fail
          refine ⟨⟨k + 1, k, by omega, rfl, by go_num, HS2, hx, hB⟩, by simp only [intOf]; omega⟩
      · have g1 : (x.d == doc) = false := by simp [hxd]
        have HS2 : Hid (idxOf es doc (k + 1) = some y) := Lib.hid (by rw [HSU.out, if_neg hxd])
        clear hxd
        go_wp2_with fail
        refine ⟨⟨k + 1, y, by omega, rfl, by go_num, HS2, hx, hB⟩, by simp only [intOf]; omega⟩
    · obtain rfl : n = k := by omega
      have HF : Hid (idxV es doc = y) := Lib.hid (by unfold idxV; rw [HL.out, HI.out]; rfl)
      go_wp2_with fail
      go_ret
      rw [HF.out]
      exact ⟨rfl, hx.out⟩
end Go.Proofs.YtacicanjmleikaaGreatDoor
