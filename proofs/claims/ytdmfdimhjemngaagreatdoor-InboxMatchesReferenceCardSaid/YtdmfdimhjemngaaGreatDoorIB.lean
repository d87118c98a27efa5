/-
  The inbox: what its functions answer, in plain words; blocks of cells; replies of packets.
-/
import Derived.Test.YtdmfdimhjemngaaGreatDoorIA
import Derived.Test.YtdmfdimhjemngaaGreatDoorCE
import Derived.Test.YtdmfdimhjemngaaGreatDoorKP
namespace Go.Proofs.YtdmfdimhjemngaaGreatDoor
open Go.RowKit Go.Sort Go.Shelf
set_option linter.unusedSimpArgs false
set_option linter.unusedVariables false
set_option maxRecDepth 100000

/-- A block of these cells. -/
def Bk (W : World) (b : Nat) (T : TypeId) (cs : Array Value) : Prop := W.heap[b]? = some (.cells cs T (0, 0))
theorem Bk.new (w : World) (T : TypeId) (cs : Array Value) : Bk (w.alloc (.cells cs T)) w.heap.size T cs := World.alloc_heap_new w _
theorem Bk.ext {W W' : World} {b : Nat} {T : TypeId} {cs : Array Value} (h : Bk W b T cs) (hE : Ext W W') : Bk W' b T cs := (hE.block b (Array.getElem?_eq_some_iff.1 h).1).trans h
theorem Bk.lt {W : World} {b : Nat} {T : TypeId} {cs : Array Value} (h : Bk W b T cs) : b < W.heap.size := (Array.getElem?_eq_some_iff.1 h).1
theorem Bk.c {W : World} {b : Nat} {T : TypeId} {cs : Array Value} (h : Bk W b T cs) (i : Nat) (v : Value) (hv : cs[i]? = some v) : W.cell? ⟨b, i, none⟩ = some v := cell_of_block h i v hv
theorem Bk.free {W : World} {b : Nat} {T : TypeId} {cs : Array Value} (h : Bk W b T cs) (i : Nat) : W.frozen? ⟨b, i, none⟩ = false := free_of_block h i
theorem Bk.set {W : World} {b : Nat} {T : TypeId} {cs : Array Value} (h : Bk W b T cs) (i : Nat) (v : Value) : Bk (W.setCell ⟨b, i, none⟩ v) b T (cs.setIfInBounds i v) := heap_setCell_same W b i _ _ _ h

/-! ### Replies and packets -/
theorem wfR_rep (x : Rp) : repB x.a x.h x.r x.lo x.hi x.k x.t x.c x.s = wfR x := by
  unfold repB reqB wfR idsB restB
  have e : ∀ n l h, inB n l h = inC n l h := fun _ _ _ => rfl
  simp only [e, show validB x.lo x.hi = stampB x.lo x.hi from rfl]
  cases inC x.a 1 16 <;> cases inC x.h 1 64 <;> cases inC x.r 1 200 <;> simp
def rpOf (q : Rep) : Rp := ⟨q.a, q.h, q.r, q.n, q.lo, q.hi, q.k, q.t, q.c, q.s⟩
def repO (x : Rp) : Rep := ⟨x.a, x.h, x.r, x.n, x.lo, x.hi, x.k, x.t, x.c, x.s⟩
/-- The reply of a packet, and the packet of a reply. -/
def gpX (xs : List Int) : Option Rp := (lrep xs).map rpOf
def ppX (x : Rp) : List Int := pkt 2 (repInts x.a x.h x.r x.n x.lo x.hi x.k x.t x.c x.s)
theorem Rp.Ok.W {x : Rp} (h : x.Ok) : RepW x.a x.h x.r x.n x.lo x.hi x.k x.t x.c x.s := ⟨⟨h.h, h.a, h.r, h.n⟩, h.lo, h.hi, h.k, h.t, h.c, h.s⟩
theorem gpX_pp {x : Rp} (hx : x.Ok) (hw : wfR x = true) : gpX (ppX x) = some x := by
  have h : lrep (pkt 2 (repO x).ints) = some (repO x) := lrep_pkt (q := repO x) hx.W ((wfR_rep x).trans hw)
  unfold gpX
  rw [show ppX x = pkt 2 (repO x).ints from rfl, h]
  rfl
theorem gpX_conv {xs : List Int} {x : Rp} (hw : ∀ y ∈ xs, (Lit.int .u8 y).wf = true) (h : gpX xs = some x) : wfR x = true ∧ x.Ok := by
  unfold gpX at h
  rcases hq : lrep xs with _ | q
  · rw [hq] at h; cases h
  rw [hq] at h
  obtain ⟨_, h2, h3⟩ := lrep_conv hw hq
  obtain rfl : rpOf q = x := Option.some.inj h
  exact ⟨(wfR_rep (rpOf q)).symm.trans h2, ⟨h3.q.a, h3.q.h, h3.q.r, h3.q.n, h3.lo, h3.hi, h3.k, h3.t, h3.c, h3.s⟩⟩
theorem gpX_nil : gpX [] = none := rfl
theorem ppX_wf (x : Rp) : ∀ y ∈ ppX x, (Lit.int .u8 y).wf = true := pkt_wf (by omega) _
theorem ppX_len {x : Rp} (hx : x.Ok) (hw : wfR x = true) : (ppX x).length ≤ 47 := (pkt_rep_size (q := repO x) (wf_u64 hx.n) ((wfR_rep x).trans hw)).2

/-! ### Boxes -/
def bx0 : Bx := ⟨0, 0, 0, 0, 0, [], []⟩
structure Bx.Ok (b : Bx) : Prop where
  host : (Lit.int .i64 b.host).wf = true
  round : (Lit.int .i64 b.round).wf = true
  head : 0 ≤ b.head ∧ b.head ≤ 18446744073709551615
  sent : (Lit.int .i64 b.sent).wf = true
  wait : (Lit.int .i64 b.wait).wf = true
theorem bx0_ok : bx0.Ok := ⟨rfl, rfl, by simp [bx0], rfl, rfl⟩
/-- The box with these two slices reads so. -/
structure BxF (w : World) (b : Bx) (sa : Option Addr) (sn sc : Nat) (ga : Option Addr) (gn gc : Nat) : Prop where
  ok : b.Ok
  sl : Sl .i64 w sa sn sc b.asked
  rw : Rw w ga gn gc b.got
theorem BxF.ext {w w' : World} {b : Bx} {sa ga : Option Addr} {sn sc gn gc : Nat} (h : BxF w b sa sn sc ga gn gc) (hE : Ext w w') : BxF w' b sa sn sc ga gn gc := ⟨h.ok, h.sl.ext hE, h.rw.ext hE⟩

def tkE (b : Bx) (t : Int) : Int := if (frmX b && inC t 0 3000000000000000) = true then (if t < b.sent then 30 else 0) else 1
def kdX (b : Bx) (p : Option Rp) (t : Int) : Int := kindX b p t 5 3 2 4 1
def tkK (b : Bx) (p : Option Rp) (t : Int) : Int := if tkE b t = 0 then kdX b p t else 0
def gotX (b : Bx) (p : Option Rp) (t : Int) : List Rp := match p with | some r => if kdX b p t = 1 then insR r b.got else b.got | none => b.got
def tkB (b : Bx) (p : Option Rp) (t : Int) : Bx := if tkE b t = 0 then { b with got := gotX b p t } else bx0
/-- What Take answers. -/
def TkP (w w' : World) (e : Ending) (b : Bx) (k z : Int) : Prop := ∃ sa sn sc ga gn gc, e = .returned (.tuple #[.agg #[.int .i64 b.host, .int .i64 b.round, .int .u64 b.head, .int .i64 b.sent, .int .i64 b.wait, .slice sa sn sc, .slice ga gn gc], .int .i64 k, .int .i64 z]) ∧ BxF w' b sa sn sc ga gn gc ∧ Ext w w'
/-- A box and an error. -/
def BxP (w w' : World) (e : Ending) (b : Bx) (z : Int) : Prop := ∃ sa sn sc ga gn gc, e = .returned (.tuple #[.agg #[.int .i64 b.host, .int .i64 b.round, .int .u64 b.head, .int .i64 b.sent, .int .i64 b.wait, .slice sa sn sc, .slice ga gn gc], .int .i64 z]) ∧ BxF w' b sa sn sc ga gn gc ∧ Ext w w'
theorem bx0_f (w : World) : BxF w bx0 none 0 0 none 0 0 := ⟨bx0_ok, Sl.noneNil _ _, Rw.nil _⟩

def opnX (host : Int) (rs : List (List Rp)) (sent wait : Int) (asked : List Int) : Bool := validF host rs && (inC sent 0 3000000000000000 && (inC wait 0 1000000000 && askB asked))
def opnE (host : Int) (rs : List (List Rp)) (sent wait : Int) (asked : List Int) : Int := if opnX host rs sent wait asked = true then (if rs.length = 200 then 2 else 0) else 1
def opnB (host : Int) (rs : List (List Rp)) (sent wait : Int) (asked : List Int) : Bx := if opnE host rs sent wait asked = 0 then ⟨host, (rs.length : Int) + 1, headF rs, sent, wait, asked, []⟩ else bx0

/-- A request. -/
structure Rq where
  h : Int
  a : Int
  r : Int
  n : Int
  deriving DecidableEq
def Rq.enc (x : Rq) : List Value := [.int .i64 x.h, .int .i64 x.a, .int .i64 x.r, .int .u64 x.n]
structure Rq.Ok (x : Rq) : Prop where
  h : (Lit.int .i64 x.h).wf = true
  a : (Lit.int .i64 x.a).wf = true
  r : (Lit.int .i64 x.r).wf = true
  n : (Lit.int .u64 x.n).wf = true
instance : Cel Rq where
  dflt := ⟨0, 0, 0, 0⟩
  sz := 4
  enc := Rq.enc
  ok := Rq.Ok
  len := fun _ => rfl
  pos := by omega
  one := by intro x v hv; simp only [Rq.enc, List.mem_cons, List.not_mem_nil, or_false] at hv; rcases hv with rfl | rfl | rfl | rfl <;> rfl
theorem sz_rq : Cel.sz Rq = 4 := rfl
theorem cells_rq {W : World} {b o : Nat} {x : Rq} (h : W.rangeAt b o (Cel.enc x)) : W.cell? ⟨b, o, none⟩ = some (.int .i64 x.h) ∧ W.cell? ⟨b, o + 1, none⟩ = some (.int .i64 x.a) ∧ W.cell? ⟨b, o + 2, none⟩ = some (.int .i64 x.r) ∧ W.cell? ⟨b, o + 3, none⟩ = some (.int .u64 x.n) :=
  ⟨h 0 _ rfl, h 1 _ rfl, h 2 _ rfl, h 3 _ rfl⟩
theorem el_rq : ElS Tryz.prog 38 51 (.agg #[.int .i64 0, .int .i64 0, .int .i64 0, .int .u64 0]) (Cel.sz Rq) 32 := ⟨by kernel_rfl, by kernel_rfl, rfl, by decide⟩
def rq1 (b : Bx) (a : Int) : Rq := ⟨b.host, a, b.round, nonF b.head b.host b.round a⟩
def rqsX (b : Bx) : List Rq := if frmX b = true then b.asked.map (rq1 b) else []
def okE (x : Bool) : Int := if x = true then 0 else 1
def clsX (b : Bx) : List Rp := if frmX b = true then b.got else []
end Go.Proofs.YtdmfdimhjemngaaGreatDoor
