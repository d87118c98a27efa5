/-
  Deeds as they lie in a row; the block of a course. Written by wip/gen_rf.py.
-/
import Derived.Test.YtacicanjmleikaaRE
namespace Go.Proofs.Ytacicanjmleikaa
open Go.RowKit Go.Sort Go.Shelf
set_option linter.unusedSimpArgs false
set_option linter.unusedVariables false
set_option maxRecDepth 100000

structure Dd where
  t : Tx
  after : Int
  left : Int
  right : Int
  look : Bool
structure DdR where
  t : TxR
  after : Int
  left : Int
  right : Int
  look : Bool
def DdR.enc (x : DdR) : List Value := [.int .i64 x.t.id, .int .i64 x.t.ts, .slice x.t.ra x.t.rn x.t.rc, .slice x.t.wa x.t.wn x.t.wc, .int .u32 x.after, .int .u16 x.left, .int .u16 x.right, .bool x.look]
structure DdR.Ok (x : DdR) : Prop where
  t : x.t.Ok
  after : 0 ≤ x.after ∧ x.after ≤ 4294967295
  left : 0 ≤ x.left ∧ x.left ≤ 65535
  right : 0 ≤ x.right ∧ x.right ≤ 65535
instance : Cel DdR where
  dflt := ⟨⟨0, 0, none, 0, 0, none, 0, 0⟩, 0, 0, 0, false⟩
  sz := 8
  enc := DdR.enc
  ok := DdR.Ok
  len := fun _ => rfl
  pos := by decide
  one := by intro x v hv; simp [DdR.enc] at hv; rcases hv with rfl | rfl | rfl | rfl | rfl | rfl | rfl | rfl <;> rfl
theorem sz_dr : Cel.sz DdR = 8 := rfl
theorem cells_dr {W : World} {b o : Nat} {x : DdR} (h : W.rangeAt b o (Cel.enc x)) : W.cell? ⟨b, o, none⟩ = some (.int .i64 x.t.id) ∧ W.cell? ⟨b, o + 1, none⟩ = some (.int .i64 x.t.ts) ∧ W.cell? ⟨b, o + 2, none⟩ = some (.slice x.t.ra x.t.rn x.t.rc) ∧ W.cell? ⟨b, o + 3, none⟩ = some (.slice x.t.wa x.t.wn x.t.wc) ∧
    W.cell? ⟨b, o + 4, none⟩ = some (.int .u32 x.after) ∧ W.cell? ⟨b, o + 5, none⟩ = some (.int .u16 x.left) ∧ W.cell? ⟨b, o + 6, none⟩ = some (.int .u16 x.right) ∧ W.cell? ⟨b, o + 7, none⟩ = some (.bool x.look) :=
  ⟨by simpa using h 0 _ rfl, h 1 _ rfl, h 2 _ rfl, h 3 _ rfl, h 4 _ rfl, h 5 _ rfl, h 6 _ rfl, h 7 _ rfl⟩
def nthD (l : List Dd) (i : Nat) : Dd := l.getD i ⟨⟨0, 0, [], []⟩, 0, 0, 0, false⟩
theorem nthD_get {l : List Dd} {i : Nat} (h : i < l.length) : nthD l i = l[i] := by simp [nthD, List.getD_eq_getElem?_getD, h]
/-- The raw deed r reads as d. -/
structure DdL (W : World) (r : DdR) (d : Dd) : Prop where
  t : TxL W r.t d.t
  after : r.after = d.after
  left : r.left = d.left
  right : r.right = d.right
  look : r.look = d.look
theorem DdL.ext {W W' : World} {r : DdR} {d : Dd} (h : DdL W r d) (he : Ext W W') : DdL W' r d := ⟨h.t.ext he, h.after, h.left, h.right, h.look⟩
def Dds (W : World) (a : Option Addr) (n c : Nat) (ds : List Dd) : Prop := ∃ rs : List DdR, Rw W a n c rs ∧ ds.length = n ∧ ∀ i, i < n → DdL W (nthR rs i) (nthD ds i)
theorem Dds.ext {W W' : World} {a : Option Addr} {n c : Nat} {ds : List Dd} (h : Dds W a n c ds) (he : Ext W W') : Dds W' a n c ds :=
  let ⟨rs, h1, h2, h3⟩ := h; ⟨rs, h1.ext he, h2, fun i hi => (h3 i hi).ext he⟩
theorem Dds.hlen {W : World} {a : Option Addr} {n c : Nat} {ds : List Dd} (h : Dds W a n c ds) : ds.length = n := let ⟨_, _, h2, _⟩ := h; h2
theorem Dds.bd {W : World} {a : Option Addr} {n c : Nat} {ds : List Dd} (h : Dds W a n c ds) : n ≤ c ∧ c ≤ 9223372036854775807 ∧ n ≤ 17592186044416 := let ⟨_, h1, _⟩ := h; h1.bd
theorem Dds.at {W : World} {a : Option Addr} {n c : Nat} {ds : List Dd} (h : Dds W a n c ds) (h0 : 0 < n) :
    ∃ b off, a = some ⟨b, off, none⟩ ∧ ∀ i, i < n → ∃ r : DdR, W.rangeAt b (off + i * 8) (Cel.enc r) ∧ DdL W r (nthD ds i) ∧ r.Ok := by
  obtain ⟨rs, h1, h2, h3⟩ := h
  obtain ⟨b, off, e, hc⟩ := h1.at h0
  exact ⟨b, off, e, fun i hi => ⟨nthR rs i, hc i hi, h3 i hi, h1.wfAt hi⟩⟩

theorem cr_two {W : World} {cb : Nat} {v0 v4 : Int} {a1 a2 a3 : Option Addr} {n1 c1 n2 c2 n3 c3 : Nat} {b5 : Bool} (hB : Bk W cb 38 #[.int .i64 v0, .slice a1 n1 c1, .slice a2 n2 c2, .slice a3 n3 c3, .int .i64 v4, .bool b5]) {o : Nat} {x y : Int} (d0 : W.cell? ⟨cb, o, none⟩ = some (.int .i64 x)) (d1 : W.cell? ⟨cb, o + 1, none⟩ = some (.int .i64 y)) : False := by
  have q1 := hB.c 1 _ rfl
  have q2 := hB.c 2 _ rfl
  have q3 := hB.c 3 _ rfl
  have q5 := hB.c 5 _ rfl
  by_cases h0 : o = 0
  · subst h0; rw [show 0 + 1 = 1 from rfl, q1] at d1; cases d1
  · by_cases h1 : o = 1
    · subst h1; rw [q1] at d0; cases d0
    · by_cases h2 : o = 2
      · subst h2; rw [q2] at d0; cases d0
      · by_cases h3 : o = 3
        · subst h3; rw [q3] at d0; cases d0
        · by_cases h4 : o = 4
          · subst h4; rw [show 4 + 1 = 5 from rfl, q5] at d1; cases d1
          · by_cases h5 : o = 5
            · subst h5; rw [q5] at d0; cases d0
            · unfold Bk at hB
              simp [World.cell?, hB] at d0
              rw [List.getElem?_eq_none (by simp; omega)] at d0
              cases d0
theorem Rw.setCrS {W : World} {cb : Nat} {v0 v4 : Int} {a1 a2 a3 : Option Addr} {n1 c1 n2 c2 n3 c3 : Nat} {b5 : Bool} (hB : Bk W cb 38 #[.int .i64 v0, .slice a1 n1 c1, .slice a2 n2 c2, .slice a3 n3 c3, .int .i64 v4, .bool b5]) {a : Option Addr} {n c : Nat} {xs : List Sn} (h : Rw W a n c xs) (j : Nat) (v : Value) : Rw (W.setCell ⟨cb, j, none⟩ v) a n c xs := by
  refine h.below (fun b off ha h0 => heap_setCell_other W ⟨cb, j, none⟩ b v (fun e => ?_))
  simp only at e
  subst e
  obtain ⟨b', off', he, hc⟩ := h.cells 0 h0
  rw [ha] at he
  simp only [Option.some.injEq, Addr.mk.injEq, and_true] at he
  obtain ⟨rfl, rfl⟩ := he
  obtain ⟨d0, d1⟩ := cells_sn hc
  exact cr_two hB d0 d1
theorem Rw.setCrW {W : World} {cb : Nat} {v0 v4 : Int} {a1 a2 a3 : Option Addr} {n1 c1 n2 c2 n3 c3 : Nat} {b5 : Bool} (hB : Bk W cb 38 #[.int .i64 v0, .slice a1 n1 c1, .slice a2 n2 c2, .slice a3 n3 c3, .int .i64 v4, .bool b5]) {a : Option Addr} {n c : Nat} {xs : List Wr} (h : Rw W a n c xs) (j : Nat) (v : Value) : Rw (W.setCell ⟨cb, j, none⟩ v) a n c xs := by
  refine h.below (fun b off ha h0 => heap_setCell_other W ⟨cb, j, none⟩ b v (fun e => ?_))
  simp only at e
  subst e
  obtain ⟨b', off', he, hc⟩ := h.cells 0 h0
  rw [ha] at he
  simp only [Option.some.injEq, Addr.mk.injEq, and_true] at he
  obtain ⟨rfl, rfl⟩ := he
  obtain ⟨d0, d1, _⟩ := cells_wr hc
  exact cr_two hB d0 d1
theorem Rw.setCrV {W : World} {cb : Nat} {v0 v4 : Int} {a1 a2 a3 : Option Addr} {n1 c1 n2 c2 n3 c3 : Nat} {b5 : Bool} (hB : Bk W cb 38 #[.int .i64 v0, .slice a1 n1 c1, .slice a2 n2 c2, .slice a3 n3 c3, .int .i64 v4, .bool b5]) {a : Option Addr} {n c : Nat} {xs : List Vn} (h : Rw W a n c xs) (j : Nat) (v : Value) : Rw (W.setCell ⟨cb, j, none⟩ v) a n c xs := by
  refine h.below (fun b off ha h0 => heap_setCell_other W ⟨cb, j, none⟩ b v (fun e => ?_))
  simp only at e
  subst e
  obtain ⟨b', off', he, hc⟩ := h.cells 0 h0
  rw [ha] at he
  simp only [Option.some.injEq, Addr.mk.injEq, and_true] at he
  obtain ⟨rfl, rfl⟩ := he
  obtain ⟨d0, d1, _⟩ := cells_vn hc
  exact cr_two hB d0 d1
theorem Rw.setCrT {W : World} {cb : Nat} {v0 v4 : Int} {a1 a2 a3 : Option Addr} {n1 c1 n2 c2 n3 c3 : Nat} {b5 : Bool} (hB : Bk W cb 38 #[.int .i64 v0, .slice a1 n1 c1, .slice a2 n2 c2, .slice a3 n3 c3, .int .i64 v4, .bool b5]) {a : Option Addr} {n c : Nat} {xs : List TxR} (h : Rw W a n c xs) (j : Nat) (v : Value) : Rw (W.setCell ⟨cb, j, none⟩ v) a n c xs := by
  refine h.below (fun b off ha h0 => heap_setCell_other W ⟨cb, j, none⟩ b v (fun e => ?_))
  simp only at e
  subst e
  obtain ⟨b', off', he, hc⟩ := h.cells 0 h0
  rw [ha] at he
  simp only [Option.some.injEq, Addr.mk.injEq, and_true] at he
  obtain ⟨rfl, rfl⟩ := he
  obtain ⟨d0, d1, _⟩ := cells_tr hc
  exact cr_two hB d0 d1
theorem Txs.setCr {W : World} {cb : Nat} {v0 v4 : Int} {a1 a2 a3 : Option Addr} {n1 c1 n2 c2 n3 c3 : Nat} {b5 : Bool} (hB : Bk W cb 38 #[.int .i64 v0, .slice a1 n1 c1, .slice a2 n2 c2, .slice a3 n3 c3, .int .i64 v4, .bool b5]) {a : Option Addr} {n c : Nat} {ts : List Tx} (h : Txs W a n c ts) (j : Nat) (v : Value) : Txs (W.setCell ⟨cb, j, none⟩ v) a n c ts := by
  obtain ⟨rs, h1, h2, h3⟩ := h
  exact ⟨rs, Rw.setCrT hB h1 j v, h2, fun i hi => ⟨(h3 i hi).id, (h3 i hi).ts, Rw.setCrS hB (h3 i hi).rd j v, Rw.setCrW hB (h3 i hi).wr j v⟩⟩
theorem LdL.setCr {W : World} {cb : Nat} {v0 v4 : Int} {a1 a2 a3 : Option Addr} {n1 c1 n2 c2 n3 c3 : Nat} {b5 : Bool} (hB : Bk W cb 38 #[.int .i64 v0, .slice a1 n1 c1, .slice a2 n2 c2, .slice a3 n3 c3, .int .i64 v4, .bool b5]) {r : LdR} {l : Ld} (h : LdL W r l) (j : Nat) (v : Value) : LdL (W.setCell ⟨cb, j, none⟩ v) r l :=
  ⟨h.last, Rw.setCrV hB h.st j v, Txs.setCr hB h.op j v⟩
theorem LdL.setCr3 {W : World} {cb : Nat} {v0 v4 v0' : Int} {a1 a2 a3 a1' a2' : Option Addr} {n1 c1 n2 c2 n3 c3 n1' c1' n2' c2' : Nat} {b5 : Bool} (hB : Bk W cb 38 #[.int .i64 v0, .slice a1 n1 c1, .slice a2 n2 c2, .slice a3 n3 c3, .int .i64 v4, .bool b5]) {r : LdR} {l : Ld} (h : LdL W r l) :
    LdL (((W.setCell ⟨cb, 0, none⟩ (.int .i64 v0')).setCell ⟨cb, 1, none⟩ (.slice a1' n1' c1')).setCell ⟨cb, 2, none⟩ (.slice a2' n2' c2')) r l :=
  LdL.setCr ((hB.set 0 (.int .i64 v0')).set 1 (.slice a1' n1' c1')) (LdL.setCr (hB.set 0 (.int .i64 v0')) (LdL.setCr hB h 0 _) 1 _) 2 _
theorem Bk.set3of6 {W : World} {cb : Nat} {T : TypeId} {u0 u1 u2 u3 u4 u5 : Value} (h : Bk W cb T #[u0, u1, u2, u3, u4, u5]) (v0 v1 v2 : Value) : Bk (((W.setCell ⟨cb, 0, none⟩ v0).setCell ⟨cb, 1, none⟩ v1).setCell ⟨cb, 2, none⟩ v2) cb T #[v0, v1, v2, u3, u4, u5] := ((h.set 0 v0).set 1 v1).set 2 v2
theorem LdD.ldL {base : Nat} {W : World} {r : LdR} {l : Ld} (h : LdD base W r l) (hv : ValL l) : LdL W r l := by
  have h1 : r.sn = l.st.length := h.st.1.symm
  have h2 := (validV_iff.1 hv.st).2.2
  have h3 : l.op.length = r.on := by obtain ⟨_, _, h3, _⟩ := h.op; exact h3
  have h4 := hv.nop
  exact ⟨h.last, h.st.rw (by omega) (fun x hx => wfV_ok ((validV_iff.1 hv.st).1 x hx)), h.op.owT.txs (by omega)⟩
theorem LdD.keep {base : Nat} {W W' : World} {r : LdR} {l : Ld} (h : LdD base W r l) (hw : ∀ b, base ≤ b → b < W.heap.size → W'.heap[b]? = W.heap[b]?) : LdD base W' r l := ⟨h.last, h.st.keepHi hw, h.op.keepHi hw⟩
theorem LdD.ext {base : Nat} {W W' : World} {r : LdR} {l : Ld} (h : LdD base W r l) (hx : Ext W W') : LdD base W' r l := ⟨h.last, h.st.ext hx, h.op.ext hx⟩
end Go.Proofs.Ytacicanjmleikaa
