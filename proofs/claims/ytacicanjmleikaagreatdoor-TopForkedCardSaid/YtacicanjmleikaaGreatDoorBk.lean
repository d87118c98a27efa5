/-
  A block of cells, known whole (as in QK).
-/
import Derived.Test.YtacicanjmleikaaGreatDoorLibB
import Derived.Test.YtacicanjmleikaaGreatDoorRw
namespace Go.Proofs.YtacicanjmleikaaGreatDoor
open Go.RowKit Go.Sort
set_option linter.unusedSimpArgs false
set_option linter.unusedVariables false

def Bk (W : World) (b : Nat) (T : TypeId) (cs : Array Value) : Prop := W.heap[b]? = some (.cells cs T (0, 0))
theorem Bk.new (w : World) (T : TypeId) (cs : Array Value) : Bk (w.alloc (.cells cs T)) w.heap.size T cs := World.alloc_heap_new w _
theorem Bk.ext {W W' : World} {b : Nat} {T : TypeId} {cs : Array Value} (h : Bk W b T cs) (hE : Ext W W') : Bk W' b T cs := (hE.block b (Array.getElem?_eq_some_iff.1 h).1).trans h
theorem Bk.lt {W : World} {b : Nat} {T : TypeId} {cs : Array Value} (h : Bk W b T cs) : b < W.heap.size := (Array.getElem?_eq_some_iff.1 h).1
theorem Bk.c {W : World} {b : Nat} {T : TypeId} {cs : Array Value} (h : Bk W b T cs) (i : Nat) (v : Value) (hv : cs[i]? = some v) : W.cell? ⟨b, i, none⟩ = some v := cell_of_block h i v hv
theorem Bk.free {W : World} {b : Nat} {T : TypeId} {cs : Array Value} (h : Bk W b T cs) (i : Nat) : W.frozen? ⟨b, i, none⟩ = false := free_of_block h i
theorem Bk.set {W : World} {b : Nat} {T : TypeId} {cs : Array Value} (h : Bk W b T cs) (i : Nat) (v : Value) : Bk (W.setCell ⟨b, i, none⟩ v) b T (cs.setIfInBounds i v) := heap_setCell_same W b i _ _ _ h
theorem Bk.otherB {W : World} {b : Nat} {T : TypeId} {cs : Array Value} (h : Bk W b T cs) {p : Nat} (hne : p ≠ b) (i : Nat) (v : Value) : Bk (W.setCell ⟨p, i, none⟩ v) b T cs :=
  (heap_setCell_other W ⟨p, i, none⟩ b v (fun e => hne e.symm)).trans h
set_option maxHeartbeats 2000000 in
theorem Bk.set2 {W : World} {b : Nat} {T : TypeId} {u0 u1 : Value} (h : Bk W b T #[u0, u1]) (v0 v1 : Value) : Bk ((W.setCell ⟨b, 0, none⟩ v0).setCell ⟨b, 1, none⟩ v1) b T #[v0, v1] := ((h.set 0 v0).set 1 v1)
theorem Ext.set2 {w W : World} {b : Nat} (hE : Ext w W) (hb : w.heap.size ≤ b) (v0 v1 : Value) : Ext w ((W.setCell ⟨b, 0, none⟩ v0).setCell ⟨b, 1, none⟩ v1) := ((hE.setCell (p := ⟨b, 0, none⟩) hb v0).setCell (p := ⟨b, 1, none⟩) hb v1)
theorem Bk.other2 {W : World} {b p : Nat} {T : TypeId} {cs : Array Value} (h : Bk W b T cs) (hne : p ≠ b) (v0 v1 : Value) : Bk ((W.setCell ⟨p, 0, none⟩ v0).setCell ⟨p, 1, none⟩ v1) b T cs := ((h.otherB hne 0 v0).otherB hne 1 v1)
set_option maxHeartbeats 2000000 in
theorem Bk.set3 {W : World} {b : Nat} {T : TypeId} {u0 u1 u2 : Value} (h : Bk W b T #[u0, u1, u2]) (v0 v1 v2 : Value) : Bk (((W.setCell ⟨b, 0, none⟩ v0).setCell ⟨b, 1, none⟩ v1).setCell ⟨b, 2, none⟩ v2) b T #[v0, v1, v2] := (((h.set 0 v0).set 1 v1).set 2 v2)
theorem Ext.set3 {w W : World} {b : Nat} (hE : Ext w W) (hb : w.heap.size ≤ b) (v0 v1 v2 : Value) : Ext w (((W.setCell ⟨b, 0, none⟩ v0).setCell ⟨b, 1, none⟩ v1).setCell ⟨b, 2, none⟩ v2) := (((hE.setCell (p := ⟨b, 0, none⟩) hb v0).setCell (p := ⟨b, 1, none⟩) hb v1).setCell (p := ⟨b, 2, none⟩) hb v2)
theorem Bk.other3 {W : World} {b p : Nat} {T : TypeId} {cs : Array Value} (h : Bk W b T cs) (hne : p ≠ b) (v0 v1 v2 : Value) : Bk (((W.setCell ⟨p, 0, none⟩ v0).setCell ⟨p, 1, none⟩ v1).setCell ⟨p, 2, none⟩ v2) b T cs := (((h.otherB hne 0 v0).otherB hne 1 v1).otherB hne 2 v2)
set_option maxHeartbeats 2000000 in
theorem Bk.set4 {W : World} {b : Nat} {T : TypeId} {u0 u1 u2 u3 : Value} (h : Bk W b T #[u0, u1, u2, u3]) (v0 v1 v2 v3 : Value) : Bk ((((W.setCell ⟨b, 0, none⟩ v0).setCell ⟨b, 1, none⟩ v1).setCell ⟨b, 2, none⟩ v2).setCell ⟨b, 3, none⟩ v3) b T #[v0, v1, v2, v3] := ((((h.set 0 v0).set 1 v1).set 2 v2).set 3 v3)
theorem Ext.set4 {w W : World} {b : Nat} (hE : Ext w W) (hb : w.heap.size ≤ b) (v0 v1 v2 v3 : Value) : Ext w ((((W.setCell ⟨b, 0, none⟩ v0).setCell ⟨b, 1, none⟩ v1).setCell ⟨b, 2, none⟩ v2).setCell ⟨b, 3, none⟩ v3) := ((((hE.setCell (p := ⟨b, 0, none⟩) hb v0).setCell (p := ⟨b, 1, none⟩) hb v1).setCell (p := ⟨b, 2, none⟩) hb v2).setCell (p := ⟨b, 3, none⟩) hb v3)
theorem Bk.other4 {W : World} {b p : Nat} {T : TypeId} {cs : Array Value} (h : Bk W b T cs) (hne : p ≠ b) (v0 v1 v2 v3 : Value) : Bk ((((W.setCell ⟨p, 0, none⟩ v0).setCell ⟨p, 1, none⟩ v1).setCell ⟨p, 2, none⟩ v2).setCell ⟨p, 3, none⟩ v3) b T cs := ((((h.otherB hne 0 v0).otherB hne 1 v1).otherB hne 2 v2).otherB hne 3 v3)
set_option maxHeartbeats 2000000 in
theorem Bk.set6 {W : World} {b : Nat} {T : TypeId} {u0 u1 u2 u3 u4 u5 : Value} (h : Bk W b T #[u0, u1, u2, u3, u4, u5]) (v0 v1 v2 v3 v4 v5 : Value) : Bk ((((((W.setCell ⟨b, 0, none⟩ v0).setCell ⟨b, 1, none⟩ v1).setCell ⟨b, 2, none⟩ v2).setCell ⟨b, 3, none⟩ v3).setCell ⟨b, 4, none⟩ v4).setCell ⟨b, 5, none⟩ v5) b T #[v0, v1, v2, v3, v4, v5] := ((((((h.set 0 v0).set 1 v1).set 2 v2).set 3 v3).set 4 v4).set 5 v5)
theorem Ext.set6 {w W : World} {b : Nat} (hE : Ext w W) (hb : w.heap.size ≤ b) (v0 v1 v2 v3 v4 v5 : Value) : Ext w ((((((W.setCell ⟨b, 0, none⟩ v0).setCell ⟨b, 1, none⟩ v1).setCell ⟨b, 2, none⟩ v2).setCell ⟨b, 3, none⟩ v3).setCell ⟨b, 4, none⟩ v4).setCell ⟨b, 5, none⟩ v5) := ((((((hE.setCell (p := ⟨b, 0, none⟩) hb v0).setCell (p := ⟨b, 1, none⟩) hb v1).setCell (p := ⟨b, 2, none⟩) hb v2).setCell (p := ⟨b, 3, none⟩) hb v3).setCell (p := ⟨b, 4, none⟩) hb v4).setCell (p := ⟨b, 5, none⟩) hb v5)
theorem Bk.other6 {W : World} {b p : Nat} {T : TypeId} {cs : Array Value} (h : Bk W b T cs) (hne : p ≠ b) (v0 v1 v2 v3 v4 v5 : Value) : Bk ((((((W.setCell ⟨p, 0, none⟩ v0).setCell ⟨p, 1, none⟩ v1).setCell ⟨p, 2, none⟩ v2).setCell ⟨p, 3, none⟩ v3).setCell ⟨p, 4, none⟩ v4).setCell ⟨p, 5, none⟩ v5) b T cs := ((((((h.otherB hne 0 v0).otherB hne 1 v1).otherB hne 2 v2).otherB hne 3 v3).otherB hne 4 v4).otherB hne 5 v5)
theorem Bk.below {W W' : World} {b base : Nat} {T : TypeId} {cs : Array Value} (h : Bk W b T cs) (hx : Below base W W') (hb : b < base) : Bk W' b T cs := (hx.block _ hb).trans h
end Go.Proofs.YtacicanjmleikaaGreatDoor
