/-
  The table of the powers of ten, out of the row's own listed variables.
-/
import Derived.Test.YtkophednepcbkaaDoorD17
import Derived.LaidMore
import Derived.OpenShut
import Derived.Stop.Joined
namespace Go.Proofs.YtkophednepcbkaaDoor
open Go.RowKit
set_option linter.unusedSimpArgs false
set_option linter.unusedVariables false

theorem tabOf {W : World} (h : laidMetH Tryd.prog [("math/bits.deBruijn32tab", Rows.laid_math_bits_deBruijn32tab), ("math/bits.deBruijn64tab", Rows.laid_math_bits_deBruijn64tab), ("internal/strconv.uint64pow10", Rows.laid_internal_strconv_uint64pow10)] W) : TB W := by
  rw [MakeChecks.laidMetH_plain _ _ _ (by kernel_rfl)] at h
  obtain ⟨ps, ⟨g0, t0, cs0, f0, p0, q0, hg0, ht0, hv0, hd0, ⟨g1, t1, cs1, f1, p1, q1, hg1, ht1, hv1, hd1, ⟨g2, t2, cs2, f2, p2, q2, hg2, ht2, hv2, hd2, _, _⟩, _⟩, _⟩, _⟩ := h
  refine Lib.tabBelow_of_tabIs ?_
  unfold Lib.TabIs
  have hgg : Tryd.prog.globalNamed "internal/strconv.uint64pow10" = some g2 := hg2
  have ht : (Tryd.prog.globals[g2]?).map (·.type) = some t2 := ht2
  have hT : t2 = 56 := by
    have h1 : (Tryd.prog.globalNamed "internal/strconv.uint64pow10").bind (fun g => (Tryd.prog.globals[g]?).map (·.type)) = some 56 := by kernel_rfl
    rw [hgg] at h1
    exact Option.some.inj (ht.symm.trans h1)
  subst hT
  rw [hv2]
  exact congrArg (fun l : List Value => some l.toArray) (Lib.cells_of_tab (k := .u64) (zs := Lib.pow10Tab) (e := 24) (n := 20) Tryd.underlying56 Tryd.underlying24 (by kernel_rfl) (by kernel_rfl) hd2)

theorem LMatchesReference (a0 : Option Addr) (n0 c0 : Nat) (x0 : List Int) (a1 : Option Addr) (n1 c1 : Nat) (x1 : List Int) (y2 : Int) (y3 : Int) (w : World) (h0 : Sl .u8 w a0 n0 c0 x0) (h1 : Sl .i64 w a1 n1 c1 x1) (w2 : (Lit.int .u64 y2).wf = true) (w3 : (Lit.int .u64 y3).wf = true) (ht : TB w) : Calls Tryd.prog 3 #[.slice a0 n0 c0, .slice a1 n1 c1, .int .u64 y2, .int .u64 y3] w fun e w' => e = .returned (.bool true) ∧ Ext w w' :=
  dmatch_any a0 n0 c0 x0 a1 n1 c1 x1 y2 y3 (wf_u64 w2) (wf_u64 w3) w h0 h1 ht
theorem LOneByte (a0 : Option Addr) (n0 c0 : Nat) (x0 : List Int) (a1 : Option Addr) (n1 c1 : Nat) (x1 : List Int) (a2 : Option Addr) (n2 c2 : Nat) (x2 : List Int) (y3 : Int) (y4 : Int) (w : World) (h0 : Sl .u8 w a0 n0 c0 x0) (h1 : Sl .u8 w a1 n1 c1 x1) (h2 : Sl .u8 w a2 n2 c2 x2) (w3 : (Lit.int .i64 y3).wf = true) (w4 : (Lit.int .u8 y4).wf = true) (ht : TB w) : Calls Tryd.prog 4 #[.slice a0 n0 c0, .slice a1 n1 c1, .slice a2 n2 c2, .int .i64 y3, .int .u8 y4] w fun e w' => e = .returned (.bool true) ∧ Ext w w' :=
  done_law a0 n0 c0 x0 a1 n1 c1 x1 a2 n2 c2 x2 y3 y4 (wf_i64 w3) (wf_u8 w4) w h0 h1 h2 ht
theorem LInts (a0 : Option Addr) (n0 c0 : Nat) (x0 : List Int) (y1 : Int) (y2 : Int) (w : World) (h0 : Sl .i64 w a0 n0 c0 x0) (w1 : (Lit.int .i64 y1).wf = true) (w2 : (Lit.int .u8 y2).wf = true) (ht : TB w) : Calls Tryd.prog 5 #[.slice a0 n0 c0, .int .i64 y1, .int .u8 y2] w fun e w' => e = .returned (.bool true) ∧ Ext w w' :=
  dints_law a0 n0 c0 x0 y1 y2 (wf_i64 w1) (wf_u8 w2) w h0 ht
theorem LNext (y0 : Int) (a1 : Option Addr) (n1 c1 : Nat) (x1 : List Int) (y2 : Int) (y3 : Int) (y4 : Int) (w : World) (w0 : (Lit.int .u64 y0).wf = true) (h1 : Sl .i64 w a1 n1 c1 x1) (w2 : (Lit.int .i64 y2).wf = true) (w3 : (Lit.int .u8 y3).wf = true) (w4 : (Lit.int .u8 y4).wf = true) (ht : TB w) : Calls Tryd.prog 6 #[.int .u64 y0, .slice a1 n1 c1, .int .i64 y2, .int .u8 y3, .int .u8 y4] w fun e w' => e = .returned (.bool true) ∧ Ext w w' :=
  dnext_law y0 (wf_u64 w0) a1 n1 c1 x1 y2 y3 y4 (wf_i64 w2) (wf_u8 w3) (wf_u8 w4) w h1 ht
theorem LBehind (y0 : Int) (y1 : Int) (a2 : Option Addr) (n2 c2 : Nat) (x2 : List Int) (a3 : Option Addr) (n3 c3 : Nat) (x3 : List Int) (a4 : Option Addr) (n4 c4 : Nat) (x4 : List Int) (w : World) (w0 : (Lit.int .u64 y0).wf = true) (w1 : (Lit.int .u64 y1).wf = true) (h2 : Sl .i64 w a2 n2 c2 x2) (h3 : Sl .i64 w a3 n3 c3 x3) (h4 : Sl .i64 w a4 n4 c4 x4) (ht : TB w) : Calls Tryd.prog 7 #[.int .u64 y0, .int .u64 y1, .slice a2 n2 c2, .slice a3 n3 c3, .slice a4 n4 c4] w fun e w' => e = .returned (.bool true) ∧ Ext w w' :=
  dbehind_any y0 y1 (wf_u64 w0) (wf_u64 w1) a2 n2 c2 x2 a3 n3 c3 x3 a4 n4 c4 x4 w h2 h3 h4 ht
theorem LPair (y0 : Int) (y1 : Int) (y2 : Int) (y3 : Int) (w : World) (w0 : (Lit.int .u64 y0).wf = true) (w1 : (Lit.int .u64 y1).wf = true) (w2 : (Lit.int .i64 y2).wf = true) (w3 : (Lit.int .u8 y3).wf = true) (ht : TB w) : Calls Tryd.prog 8 #[.int .u64 y0, .int .u64 y1, .int .i64 y2, .int .u8 y3] w fun e w' => e = .returned (.bool true) ∧ Ext w w' :=
  dpair_law y0 y1 (wf_u64 w0) (wf_u64 w1) y2 y3 (wf_i64 w2) (wf_u8 w3) w ht
end Go.Proofs.YtkophednepcbkaaDoor
