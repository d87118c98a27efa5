/-
  The walk of InboxMatchesReference, its facts in the order in which the claim hands them over.
-/
import Derived.Test.YtdmfdimhjemngaaGreatDoorJS
import Derived.Test.YtdmfdimhjemngaaGreatDoorIOp
namespace Go.Proofs.YtdmfdimhjemngaaGreatDoor
open Go.RowKit Go.Sort

theorem LMatch13 (host : Int) (ca : Option Addr) (cn cc : Nat) (rs : List (List Rp)) (sent wait : Int) (wa : Option Addr) (wn wc : Nat) (who : List Int) (b : Bx) (sa : Option Addr) (sn sc : Nat) (ga : Option Addr) (gn gc : Nat) (pa : Option Addr) (pn pc : Nat) (bytes : List Int) (t : Int) (w : World)
    (who' : (Lit.int .i64 host).wf = true) (h1 : Rws w ca cn cc rs) (w3 : (Lit.int .i64 sent).wf = true) (w4 : (Lit.int .i64 wait).wf = true) (h2 : Sl .i64 w wa wn wc who) (hb : BxF w b sa sn sc ga gn gc) (hp : Sl .u8 w pa pn pc bytes) (_ : (Lit.int .i64 t).wf = true) (ht : TB w) :
    Calls Tryz.prog 3 #[.agg #[.int .i64 host, .slice ca cn cc], .int .i64 sent, .int .i64 wait, .slice wa wn wc, .agg #[.int .i64 b.host, .int .i64 b.round, .int .u64 b.head, .int .i64 b.sent, .int .i64 b.wait, .slice sa sn sc, .slice ga gn gc], .slice pa pn pc, .int .i64 t] w fun e w' => e = .returned (.bool true) ∧ Ext w w' :=
  imatch_law host who' ca cn cc rs sent wait w3 w4 wa wn wc who b sa sn sc ga gn gc pa pn pc bytes t w h1 h2 hb hp ht
end Go.Proofs.YtdmfdimhjemngaaGreatDoor
