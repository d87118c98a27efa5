/-
  The walk of InboxKeeps, its facts in the order in which the claim hands them over.
-/
import Derived.Test.YtdmfdimhjemngaaDoorIV
import Derived.Test.YtdmfdimhjemngaaDoorIOp
namespace Go.Proofs.YtdmfdimhjemngaaDoor
open Go.RowKit Go.Sort

theorem LKeeps (b : Bx) (sa : Option Addr) (sn sc : Nat) (ga : Option Addr) (gn gc : Nat) (xa xh xr xn xlo xhi xk xt xc xs t : Int) (w : World) (hb : BxF w b sa sn sc ga gn gc)
    (w0 : (Lit.int .i64 xa).wf = true) (w1 : (Lit.int .i64 xh).wf = true) (w2 : (Lit.int .i64 xr).wf = true) (w3 : (Lit.int .u64 xn).wf = true) (w4 : (Lit.int .i64 xlo).wf = true) (w5 : (Lit.int .i64 xhi).wf = true) (w6 : (Lit.int .i64 xk).wf = true) (w7 : (Lit.int .i64 xt).wf = true) (w8 : (Lit.int .i64 xc).wf = true) (w9 : (Lit.int .i64 xs).wf = true)
    (_ : (Lit.int .i64 t).wf = true) (ht : TB w) :
    Calls Tryd.prog 6 #[.agg #[.int .i64 b.host, .int .i64 b.round, .int .u64 b.head, .int .i64 b.sent, .int .i64 b.wait, .slice sa sn sc, .slice ga gn gc], .agg #[.int .i64 xa, .int .i64 xh, .int .i64 xr, .int .u64 xn, .int .i64 xlo, .int .i64 xhi, .int .i64 xk, .int .i64 xt, .int .i64 xc, .int .i64 xs], .int .i64 t] w fun e w' => e = .returned (.bool true) ∧ Ext w w' :=
  ikeeps_law b sa sn sc ga gn gc ⟨xa, xh, xr, xn, xlo, xhi, xk, xt, xc, xs⟩ ⟨w0, w1, w2, w3, w4, w5, w6, w7, w8, w9⟩ t w hb ht
end Go.Proofs.YtdmfdimhjemngaaDoor
