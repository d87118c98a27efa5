/-
  Package commit, walked: copies. Written by wip/gen_qv.py.
-/
import Derived.Test.YtacicanjmleikaaQU
namespace Go.Proofs.Ytacicanjmleikaa
open Go.RowKit Go.Sort Go.Shelf
set_option linter.unusedSimpArgs false
set_option linter.unusedVariables false
set_option maxRecDepth 100000

theorem nthT_mem {l : List Tx} {i : Nat} (h : i < l.length) : nthT l i ∈ l := by rw [nthT_get h]; exact List.getElem_mem _
theorem apt_new {α : Type} [Cel α] {E : TypeId} {base : Nat} {W : World} {a sa : Option Addr} {n c : Nat} {xs : List α} (h : OwR E base W a n c xs) (hs : ∀ g o, sa = some ⟨g, o, none⟩ → g < base) : Apt sa a n := by
  intro b off ha h0 e
  rcases h.headAt with ⟨_, h1, _⟩ | ⟨g, hg, hb, _⟩
  · omega
  · rw [ha] at hg
    simp only [Option.some.injEq, Addr.mk.injEq, and_true] at hg
    have := hs b 0 e
    omega
theorem copied_o {W W' : World} {r : TxR} {t : Tx} {base : Nat} {a1 a2 sa : Option Addr} {c1 c2 : Nat} (h : TxL W r t) (hok : r.Ok) (hr : r.rn ≤ 1000000) (hw : r.wn ≤ 1000000) (h1 : OwR 77 base W' a1 r.rn c1 t.rd) (h2 : OwR 60 base W' a2 r.wn c2 t.wr) (hs : ∀ g o, sa = some ⟨g, o, none⟩ → g < base) :
    TxO sa W' ⟨r.id, r.ts, a1, r.rn, c1, a2, r.wn, c2⟩ t :=
  ⟨⟨h.id, h.ts, h1.rw (by omega) h.rd.wf, h2.rw (by omega) h.wr.wf⟩, ⟨hok.id, hok.ts⟩, apt_new h1 hs, apt_new h2 hs⟩

set_option maxHeartbeats 4000000 in
theorem copies_any (a : Option Addr) (n c : Nat) (ts : List Tx) (w : World) (h : Txs w a n c ts) (hn : n ≤ 1000000) (hf : ∀ t ∈ ts, t.rd.length ≤ 1000000 ∧ t.wr.length ≤ 1000000) :
    Calls Try.prog 23 #[.slice a n c] w fun e w' => ∃ a' c', e = .returned (.slice a' n c') ∧ OwT w.heap.size w' a' n c' ts ∧ Ext w w' := by
  have HLO := Lib.hid h.hlen
  have HF := Lib.hid hf
  clear hf
  have bd := h.bd
  go_enter Try.func23, Try.ntmps23
  go_wp2_with fail
  go_loopw [3, 8] (fun o i wr => ∃ (k : Nat) (a' : Option Addr) (c' : Nat), k ≤ n ∧ o = .slice a' k c' ∧ i = .int .i64 k ∧ OwT w.heap.size wr a' k c' (ts.take k) ∧ Ext w wr) (fun _ i _ => n - (intOf i).toNat)
  case atStart => exact ⟨0, none, 0, by omega, rfl, rfl, OwT.nil _ _, Ext.refl _⟩
  case round =>
    obtain ⟨k, a', c', hk, rfl, rfl, ho, hx⟩ := hrel
    by_cases hlt : k < n
    · obtain ⟨x1, o1, rfl, hc1⟩ := h.at (by omega)
      obtain ⟨r, hr0, htx, hok⟩ := hc1 k hlt
      have hr := rangeAt_ext hr0 hx
      have HT := Lib.hid (take_nthT_succ (ts := ts) (k := k) (by rw [HLO.out]; exact hlt))
      have HB := Lib.hid (HF.out (nthT ts k) (nthT_mem (by rw [HLO.out]; exact hlt)))
      have HTX := Lib.hid htx
      have HOK := Lib.hid hok
      have hrn : r.rn ≤ 1000000 := by have := HB.out.1; rw [htx.rd.hlen] at this; exact this
      have hwn : r.wn ≤ 1000000 := by have := HB.out.2; rw [htx.wr.hlen] at this; exact this
      have HCP := Lib.hid (fun (V : World) (hv : Ext w V) => copied_any r (nthT ts k) V (htx.ext hv) hrn hwn)
      clear hr0 hc1 htx hok
      generalize nthT ts k = t at *
      obtain ⟨ri, rt, ra, rn, rc, wa, wn, wc⟩ := r
      obtain ⟨d0, d1, d2, d3⟩ := cells_tr hr
      unfold valT at HCP
      simp only at d0 d1 d2 d3 HCP hrn hwn
      clear hr
      have hb := Bk.new wr 26 #[.int .i64 ri, .int .i64 rt, .slice ra rn rc, .slice wa wn wc]
      have hE2 : Ext wr (wr.alloc (.cells #[.int .i64 ri, .int .i64 rt, .slice ra rn rc, .slice wa wn wc] 26)) := (Ext.refl wr).alloc _
      go_upto_region 5 with fail
      replace ho := ho.ext hE2
      replace hx := hx.trans hE2
      clear hE2 d0 d1 d2 d3
      generalize wr.alloc (.cells #[.int .i64 ri, .int .i64 rt, .slice ra rn rc, .slice wa wn wc] 26) = V2 at *
      have c0 := hb.c 0 _ rfl
      have c1 := hb.c 1 _ rfl
      have c2 := hb.c 2 _ rfl
      have c3 := hb.c 3 _ rfl
      go_wp2_with (go_at_call 32; refine (HCP.out V2 hx).mono ?_; rintro e V3 ⟨a1, e1, a2, e2, rfl, p1, p2, hx3⟩; refine hold ?_)
      refine held ?_
      have hsa : ∀ g o, a' = some ⟨g, o, none⟩ → g < V2.heap.size := fun g o e => by
        rcases ho.headAt with ⟨h1, _⟩ | ⟨g', h1, _, h2⟩
        · rw [h1] at e; cases e
        · rw [h1] at e; simp only [Option.some.injEq, Addr.mk.injEq, and_true] at e; omega
      have hto := Lib.hid (copied_o HTX.out HOK.out hrn hwn p1 p2 hsa)
      replace ho := ho.ext hx3
      replace hx := hx.trans hx3
      clear hx3 c0 c1 c2 c3 hb p1 p2 hsa
      have hbz := hx.sz
      go_wp2_with (at_builtin; refine appT1 el_tx rfl _ _ rfl V3 w.heap.size _ _ _ _ (⟨ri, rt, a1, rn, e1, a2, wn, e2⟩ : TxR) t _ rfl rfl ho hto.out rfl hbz (by unfold maxLen; omega) (by omega) ?_; intro g3 c3 w4 ho3 hB3; refine hold ?_)
      refine held ?_
      go_wp2_with fail
      refine ⟨⟨k + 1, some ⟨g3, 0, none⟩, c3, by omega, rfl, by go_num, ?_, Below.trans hx hB3⟩, by simp only [intOf]; omega⟩
      rw [HT.out]; exact ho3
    · obtain rfl : n = k := by omega
      go_wp2_with fail
      go_ret
      exact ⟨a', c', rfl, by rw [List.take_of_length_le (by rw [HLO.out]; exact Nat.le_refl _)] at ho; exact ho, hx⟩
end Go.Proofs.Ytacicanjmleikaa
