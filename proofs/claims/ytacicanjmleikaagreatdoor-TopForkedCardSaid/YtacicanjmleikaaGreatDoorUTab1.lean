/-
  The walk of TopForked, its facts in the order in which the claim hands them over.
-/
import Derived.Test.YtacicanjmleikaaGreatDoorUJ
import Derived.Test.YtacicanjmleikaaGreatDoorUK
import Derived.Test.YtacicanjmleikaaGreatDoorOpU
namespace Go.Proofs.YtacicanjmleikaaGreatDoor
open Go.RowKit Go.Sort

theorem LForked (id1 : Int) (a1 : Option Addr) (n1 c1 : Nat) (es1 : List En) (id2 : Int) (a2 : Option Addr) (n2 c2 : Nat) (es2 : List En) (first second k0 k1 : Int) (w : World)
    (h1 : Rw w a1 n1 c1 es1) (h2 : Rw w a2 n2 c2 es2) (_ : (Lit.int .u64 first).wf = true) (_ : (Lit.int .u64 second).wf = true) (hk0 : (Lit.int .u64 k0).wf = true) (hk1 : (Lit.int .u64 k1).wf = true) (ht : TB w) :
    Calls Tryz.prog 3 #[.agg #[.int .i64 id1, .slice a1 n1 c1], .agg #[.int .i64 id2, .slice a2 n2 c2], .int .u64 first, .int .u64 second, .agg #[.int .u64 k0, .int .u64 k1]] w fun e w' => e = .returned (.bool true) ∧ Ext w w' :=
  topforked_from r7ordered_yes h1 h2 (wf_rng hk0) (wf_rng hk1) ht
end Go.Proofs.YtacicanjmleikaaGreatDoor
