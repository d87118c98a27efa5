/-
  TopReads: the walk's theorem with its facts in the order of the claim.
-/
import Derived.Test.YtacicanjmleikaaRJ
import Derived.Test.YtacicanjmleikaaOpD
namespace Go.Proofs.Ytacicanjmleikaa
open Go.RowKit Go.Sort Go.Shelf
set_option linter.unusedSimpArgs false
set_option linter.unusedVariables false

theorem rtopreads_any (a : Option Addr) (n c : Nat) (ds : List Dd) (q : DdR) (dq : Dd) (key ts left right hor : Int) (w : World) (h : Dds w a n c ds) (hq : DdL w q dq) (hqo : q.Ok) (wk : (Lit.int .i64 key).wf = true) (wt : (Lit.int .i64 ts).wf = true)
    (wl : (Lit.int .u16 left).wf = true) (wr : (Lit.int .u16 right).wf = true) (wh : (Lit.int .u32 hor).wf = true) :
    Calls Try.prog 3 #[.slice a n c, .agg #[.int .i64 q.t.id, .int .i64 q.t.ts, .slice q.t.ra q.t.rn q.t.rc, .slice q.t.wa q.t.wn q.t.wc, .int .u32 q.after, .int .u16 q.left, .int .u16 q.right, .bool q.look], .int .i64 key, .int .i64 ts, .int .u16 left, .int .u16 right, .int .u32 hor] w (Yes w) :=
  topreads_any a n c ds q dq key ts left right hor w h hq hqo (by simp [Lit.wf, IntKind.min, IntKind.max, IntKind.bits, IntKind.signed] at wl; omega) (by simp [Lit.wf, IntKind.min, IntKind.max, IntKind.bits, IntKind.signed] at wr; omega) (by simp [Lit.wf, IntKind.min, IntKind.max, IntKind.bits, IntKind.signed] at wh; omega)
end Go.Proofs.Ytacicanjmleikaa
