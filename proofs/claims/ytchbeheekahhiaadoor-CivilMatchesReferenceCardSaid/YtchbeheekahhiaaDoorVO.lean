/-
  civil.read, walked, at the signs and the numbers of digits that Parse hands over. Written by wip/gen_vo.py.
-/
import Derived.Test.YtchbeheekahhiaaDoorVN
import Derived.Test.YtchbeheekahhiaaDoorLib16
import Derived.WalkMore
namespace Go.Proofs.YtchbeheekahhiaaDoor
open Go.RowKit Go.Sort Go.Shelf
set_option linter.unusedSimpArgs false
set_option linter.unusedVariables false
set_option maxRecDepth 100000

theorem lenlit9 {vs : List Value} (h : vs.length = 9) : ∃ x0 x1 x2 x3 x4 x5 x6 x7 x8 : Value, vs = [x0, x1, x2, x3, x4, x5, x6, x7, x8] := by
  obtain ⟨x0, v0, rfl, h0⟩ := len_cons h
  obtain ⟨x1, v1, rfl, h1⟩ := len_cons h0
  obtain ⟨x2, v2, rfl, h2⟩ := len_cons h1
  obtain ⟨x3, v3, rfl, h3⟩ := len_cons h2
  obtain ⟨x4, v4, rfl, h4⟩ := len_cons h3
  obtain ⟨x5, v5, rfl, h5⟩ := len_cons h4
  obtain ⟨x6, v6, rfl, h6⟩ := len_cons h5
  obtain ⟨x7, v7, rfl, h7⟩ := len_cons h6
  obtain ⟨x8, v8, rfl, h8⟩ := len_cons h7
  obtain rfl := len_nil h8
  exact ⟨x0, x1, x2, x3, x4, x5, x6, x7, x8, rfl⟩

theorem lenlit10 {vs : List Value} (h : vs.length = 10) : ∃ x0 x1 x2 x3 x4 x5 x6 x7 x8 x9 : Value, vs = [x0, x1, x2, x3, x4, x5, x6, x7, x8, x9] := by
  obtain ⟨x0, v0, rfl, h0⟩ := len_cons h
  obtain ⟨x1, v1, rfl, h1⟩ := len_cons h0
  obtain ⟨x2, v2, rfl, h2⟩ := len_cons h1
  obtain ⟨x3, v3, rfl, h3⟩ := len_cons h2
  obtain ⟨x4, v4, rfl, h4⟩ := len_cons h3
  obtain ⟨x5, v5, rfl, h5⟩ := len_cons h4
  obtain ⟨x6, v6, rfl, h6⟩ := len_cons h5
  obtain ⟨x7, v7, rfl, h7⟩ := len_cons h6
  obtain ⟨x8, v8, rfl, h8⟩ := len_cons h7
  obtain ⟨x9, v9, rfl, h9⟩ := len_cons h8
  obtain rfl := len_nil h9
  exact ⟨x0, x1, x2, x3, x4, x5, x6, x7, x8, x9, rfl⟩


def RNi (B n : Nat) (L : List Int) : RelL Ext := ⟨none, fun _ v W => ∃ g c, v = .slice (some ⟨g, 0, none⟩) n c ∧ OwI .i64 3 B W (some ⟨g, 0, none⟩) n c L, fun u v W W' ⟨g, c, h1, h2⟩ hE => ⟨g, c, h1, h2.ext hE⟩⟩
def RLi (B : Nat) (cs : Array Value) : RelL Ext := ⟨none, fun _ v W => ∃ b, v = .slice (some ⟨b, 0, none⟩) 1 1 ∧ B ≤ b ∧ W.heap[b]? = some (.cells cs 3 (0, 0)), fun _ v W W' ⟨b, h1, h2, h3⟩ hE => ⟨b, h1, h2, (hE.block b (Array.getElem?_eq_some_iff.1 h3).1).trans h3⟩⟩
def RSm (j : Nat) : RelL Ext := ⟨some j, fun u v _ => v = u, fun _ _ _ _ h _ => h⟩
theorem updE_false {listed : Nat → Bool} {i k : Nat} (h : updE listed i k = false) : listed k = false := by
  unfold updE at h
  simp only [Bool.or_eq_false_iff] at h
  exact h.1
theorem lit_of_block {W : World} {b : Nat} {E : TypeId} {x : Int} (h : W.heap[b]? = some (.cells #[.int .i64 x] E (0, 0))) (hw : (Lit.int .i64 x).wf = true) : Sl .i64 W (some ⟨b, 0, none⟩) 1 1 [x] :=
  ⟨rfl, Nat.le_refl _, by unfold maxLen; omega, fun i hi => ⟨b, 0, rfl, by
    obtain rfl : i = 0 := by omega
    exact cell_of_block h 0 _ rfl⟩, by simpa using hw⟩
/-- 'append(s, t...)' of integers; it tells which blocks stay. -/
theorem appSg {P : Program} {T E : TypeId} {k : IntKind} {by_ : Nat} (hE : ElT P T E (.int k 0) 1 by_) {ops : Array Oper} {rest : List Oper} {o : Oper} {a : Act} {Q : Exit → Act → World → Prop} (hgd : o.guard = none) (s x : Operand)
    (ho : o.op = .call { callee := .builtin .append, args := #[s, x], argTypes := #[T, T] })
    (w : World) (base : Nat) (sa : Option Addr) (n c : Nat) (xs : List Int) (hs : a.eval s = .slice sa n c) (hown : OwI k E base w sa n c xs)
    (ta : Option Addr) (m tc : Nat) (ys : List Int) (hx : a.eval x = .slice ta m tc) (ht : Sl k w ta m tc ys) (hm : 0 < m) (hbase : base ≤ w.heap.size) (h63 : n + m ≤ maxLen) (hbytes : (n + m) * by_ ≤ 140737488355328)
    (h : ∀ g cap w', OwI k E base w' (some ⟨g, 0, none⟩) (n + m) cap (xs ++ ys) → Below base w w' → w.grownBy w' (Value.slice sa n c).ownBlock → wpList P ops Q rest (a.put o.dst (.slice (some ⟨g, 0, none⟩) (n + m) cap)) w') :
    wpList P ops Q (o :: rest) a w := by
  obtain ⟨hT, hI⟩ := hE
  obtain ⟨i, hi, hz, hsz, hby⟩ := info_parts hI
  obtain ⟨b, off, rfl, hc⟩ := ht.at hm
  have hl := ht.hlen
  refine wpList_append_lies w hgd s x T ho base E i (.int k 0) 1 by_ hT hi hz hsz hby rfl (by decide) _ n _ hs hown ⟨b, off, none⟩ m tc (ys.map (Value.int k)) hx (by simp [hl]) ?_ ?_ hm h63 hbytes hbase w.heap.size rfl ?_
  · intro j u hu
    have hj : j < m := by
      rcases Nat.lt_or_ge j m with h | h
      · exact h
      · rw [List.getElem?_eq_none (by simp; omega)] at hu; cases hu
    have hadd : (⟨b, off, none⟩ : Addr).add j = ⟨b, off + j, none⟩ := by unfold Addr.add; split <;> simp_all
    rw [hadd, hc j hj]
    have hj' : j < ys.length := by omega
    simp [hj'] at hu
    rw [← hu]
    simp [nth, List.getD_eq_getElem?_getD, hj']
  · intro u hu
    simp only [List.mem_map] at hu
    obtain ⟨x, _, rfl⟩ := hu
    simp [Value.oneCell']
  · intro g cap w' h2 h3 _ _
    refine h g cap w' ?_ (below_grown hown hbase h3) h3
    unfold OwI
    rw [List.map_append]
    exact h2
theorem wfi {n : Int} (h1 : -9223372036854775808 ≤ n) (h2 : n ≤ 9223372036854775807) : (Lit.int .i64 n).wf = true := by simp [Lit.wf, IntKind.min, IntKind.max, IntKind.bits, IntKind.signed]; omega
theorem index_mkS (l : List UInt8) (i : Nat) (hi : i < l.length) (t : TypeId) (ht : Tryd.prog.underlying t = some .string) (w : World) : (Instr.index t (.string (mkS l)) (.int .i64 (i : Int))).run Tryd.prog w = .ok (.int .u8 (nthB l i)) w := by
  rw [run_index_string w t (mkS l) .i64 (i : Int) ht, dif_pos ⟨by omega, by rw [mkS_size]; omega⟩]
  congr 2
  simp [mkS, nthB, List.getD_eq_getElem?_getD, hi]
  rfl
/-- What read answers. -/
def RdP (l : List UInt8) (w : World) : Ending → World → Prop := fun e w' => ∃ a m c bb, e = .returned (.tuple #[.slice a m c, .bool bb]) ∧ Ext w w' ∧ bb = fmtB l ∧ (bb = true → m = 7 ∧ OwI .i64 3 w.heap.size w' a 7 c (valsB l 7))
theorem fmtB_no {l : List UInt8} {k : Nat} (hk : k < 7) (h : okG l k = false) : fmtB l = false := by unfold fmtB; rw [okUp_not hk h]; rfl

set_option maxHeartbeats 8000000 in
theorem cread_any (l : List UInt8) (hl : l.length ≤ 1000000000000) (bd : Nat) (w : World) (hd : Bk w bd 3 #[.int .i64 4, .int .i64 2, .int .i64 2, .int .i64 2, .int .i64 2, .int .i64 2, .int .i64 6]) :
    Calls Tryd.prog 42 #[.string (mkS l), .string ⟨#[45, 45, 84, 58, 58, 46]⟩, .slice (some ⟨bd, 0, none⟩) 7 7] w (RdP l w) := by
  have hR0 : mkS l = mkS (l.drop 0) := by simp
  go_enter Tryd.func42, Tryd.ntmps42
  go_wp2_with fail
  go_step3
  go_wp2_with fail
  go_step3
  go_wp2_with fail
  go_loopw [8, 9, 18] (fun o r i wr => ∃ (k : Nat) (aa : Option Addr) (cc : Nat), k ≤ 7 ∧ i = .int .i64 (k : Int) ∧ o = .slice aa k cc ∧ r = .string (mkS (l.drop (off k))) ∧ OwI .i64 3 w.heap.size wr aa k cc (valsB l k) ∧ okUp l k = true ∧ Ext w wr) (fun _ _ i _ => 7 - (intOf i).toNat)
  case atStart => exact ⟨0, none, 0, by omega, rfl, rfl, by rw [hR0]; rfl, OwI.nil _ _ _ _, rfl, Ext.refl _⟩
  case round =>
    obtain ⟨k, aa, cc, hk, rfl, rfl, rfl, ho, hup, hx⟩ := hrel
    have hdr := hd.ext hx
    have HUP := Lib.hid hup
    clear hup
    have hk7 : k = 0 ∨ k = 1 ∨ k = 2 ∨ k = 3 ∨ k = 4 ∨ k = 5 ∨ k = 6 ∨ k = 7 := by omega
    rcases hk7 with rfl | rfl | rfl | rfl | rfl | rfl | rfl | rfl
    · have p := hdr.c 0 _ rfl
      have hof : off 0 = 0 := rfl
      have HOF := Lib.hid hof
      have hwd : wid 0 = 4 := rfl
      have HWD := Lib.hid hwd
      rw [hof]
      obtain ⟨RZ, hRZ⟩ : ∃ RZ, l.length - 0 = RZ := ⟨_, rfl⟩
      have hRz : (mkS (l.drop 0)).size = RZ := by rw [mkS_size, List.length_drop, hRZ]
      have hX1 : (mkS (l.drop 0)).extract 0 4 = mkS ((l.drop 0).take 4) := by rw [mkS_extract]; simp
      have hX2 : (mkS (l.drop 0)).extract 4 RZ = mkS (l.drop 4) := by
        rw [mkS_extract, List.drop_drop, List.take_of_length_le (by rw [List.length_drop]; omega)]
      by_cases hlen : 0 + 4 ≤ l.length
      · have q1 : (4 : Int) ≤ (RZ : Int) := by omega
        have q2 : ¬ ((RZ : Int) < 4) := by omega
        have hGs : (mkS ((l.drop 0).take 4)).size = 4 := by rw [mkS_size, List.length_take, List.length_drop]; omega
        have hcv := run_bytes_of_string (P := Tryd.prog) wr 9 66 5 (mkS ((l.drop 0).take 4)) (by kernel_rfl) (by kernel_rfl) (by kernel_rfl)
        rw [hGs] at hcv
        have hbc : ∀ j, j < 4 → (wr.drew.alloc (.cells (bytesRow (mkS ((l.drop 0).take 4)) (grownCap wr 4 0 5)) 5 ((bytesRow (mkS ((l.drop 0).take 4)) (grownCap wr 4 0 5)).size, (bytesRow (mkS ((l.drop 0).take 4)) (grownCap wr 4 0 5)).size + 1))).cell? ⟨wr.heap.size, j, none⟩ = some (.int .u8 (nthB l (0 + j))) := fun j hj => by
          rw [← nthB_drop l 0 j, ← nthB_take (l.drop 0) 4 j hj]
          exact bytes_cell wr.drew _ _ _ _ j (by rw [List.length_take, List.length_drop]; omega)
        have hEc : Ext wr (wr.drew.alloc (.cells (bytesRow (mkS ((l.drop 0).take 4)) (grownCap wr 4 0 5)) 5 ((bytesRow (mkS ((l.drop 0).take 4)) (grownCap wr 4 0 5)).size, (bytesRow (mkS ((l.drop 0).take 4)) (grownCap wr 4 0 5)).size + 1))) := (Ext.refl wr).drew.alloc _
        generalize wr.drew.alloc (.cells (bytesRow (mkS ((l.drop 0).take 4)) (grownCap wr 4 0 5)) 5 ((bytesRow (mkS ((l.drop 0).take 4)) (grownCap wr 4 0 5)).size, (bytesRow (mkS ((l.drop 0).take 4)) (grownCap wr 4 0 5)).size + 1)) = W1 at *
        generalize grownCap wr 4 0 5 = CP at *
        generalize hGG : mkS ((l.drop 0).take 4) = GG at *
        clear hGG
        have HBC := Lib.hid hbc
        have HLEN := Lib.hid hlen
        have HX2 := Lib.hid hX2
        have HRZ := Lib.hid hRZ
        have hbl : wr.heap.size = wr.heap.size := rfl
        obtain ⟨bb, hbb⟩ : ∃ bb, wr.heap.size = bb := ⟨_, rfl⟩
        rw [hbb] at hcv HBC
        clear hbc hlen hX2 hR0 hbl hbb
        generalize mkS (l.drop 0) = R at *
        go_wp2_with fail
        go_loopw [12, 32] (fun nn j wq => ∃ (i : Nat), i ≤ 4 ∧ j = .int .i64 (i : Int) ∧ nn = .int .i64 (numB l 0 i) ∧ allB l 0 i = true ∧ Ext W1 wq) (fun _ j _ => 4 - (intOf j).toNat)
        case atStart => exact ⟨0, by omega, rfl, rfl, rfl, Ext.refl _⟩
        case round =>
          obtain ⟨i, hi, rfl, rfl, hal, hy⟩ := hrel
          have hEq := hEc.trans hy
          have HAL := Lib.hid hal
          have hnb := numB_bd hal
          have hpow : (10 : Int) ^ i ≤ 1000000 := by
            have := Nat.pow_le_pow_right (show 0 < 10 by decide) (show i ≤ 6 by omega)
            have h2 : ((10 ^ i : Nat) : Int) ≤ ((10 ^ 6 : Nat) : Int) := by exact_mod_cast this
            simpa using h2
          have hnb2 : 0 ≤ numB l 0 i ∧ numB l 0 i < 1000000 := by omega
          clear hal hnb hpow
          by_cases hlt2 : i < 4
          · have c8 := hy.cell (HBC.out i hlt2)
            have HNS : Hid (numB l 0 (i + 1) = 10 * numB l 0 i + (nthB l (0 + i) - 48)) := Lib.hid rfl
            have hbb2 := nthB_bd l (0 + i)
            have HAS : Hid (digB (nthB l (0 + i)) = true → allB l 0 (i + 1) = true) := Lib.hid (fun h => by simp only [allB]; rw [HAL.out, h]; rfl)
            have HAN : Hid (digB (nthB l (0 + i)) = false → allB l 0 4 = false) := Lib.hid (fun h => allB_not hlt2 h)
            generalize numB l 0 i = NN at *
            generalize nthB l (0 + i) = XB at *
            by_cases hd1 : 48 ≤ XB
            · by_cases hd2 : XB ≤ 57
              · have hd1' : ¬ XB < 48 := by omega
                have hd2' : ¬ 57 < XB := by omega
                have HDG := Lib.hid (HAS.out (digB_iff.2 ⟨hd1, hd2⟩))
                go_wp2_with fail
                exact ⟨⟨i + 1, by omega, by go_num, by rw [HNS.out], HDG.out, hy⟩, by simp only [intOf]; omega⟩
              · have hd2' : 57 < XB := by omega
                have hd1' : ¬ XB < 48 := by omega
                have hf := HAN.out (by rw [Bool.eq_false_iff]; exact fun h => hd2 (digB_iff.1 h).2)
                have hno : Hid (fmtB l = false) := Lib.hid (fmtB_no (k := 0) (by decide) (by unfold okG; rw [HOF.out]; rw [HWD.out, hf]; simp))
                clear hf
                go_wp2_with fail
                (try rw [Exit.noGoto_ret])
                go_ret2
                exact ⟨none, 0, 0, false, rfl, hx.trans hEq, hno.out.symm, fun h => by cases h⟩
            · have hd1' : XB < 48 := by omega
              have hf := HAN.out (by rw [Bool.eq_false_iff]; exact fun h => hd1 (digB_iff.1 h).1)
              have hno : Hid (fmtB l = false) := Lib.hid (fmtB_no (k := 0) (by decide) (by unfold okG; rw [HOF.out]; rw [HWD.out, hf]; simp))
              clear hf
              go_wp2_with fail
              (try rw [Exit.noGoto_ret])
              go_ret2
              exact ⟨none, 0, 0, false, rfl, hx.trans hEq, hno.out.symm, fun h => by cases h⟩
          · obtain rfl : i = 4 := by omega
            have hNV : valB l 0 = numB l 0 4 := rfl
            have hPV : valsB l 1 = valsB l 0 ++ [valB l 0] := rfl
            rw [hNV] at hPV
            have HPV := Lib.hid hPV
            clear hNV hPV
            have ho2 := ho.ext hEq
            have hxq := hx.trans hEq
            generalize numB l 0 4 = NV at *
            generalize valsB l 0 = PV at *
            have hwNV : (Lit.int .i64 NV).wf = true := wfi (by omega) (by omega)
            have hX2 := HX2.out
            go_upto_region 16 with fail
            have hEz := hxq
            have HOKW : Hid (allB l (off 0) (wid 0) = true ∧ off 0 + wid 0 ≤ l.length) := Lib.hid ⟨HAL.out, HLEN.out⟩
            clear hxq hEq hy hEc hx hcv HBC HAL hdr p q2
            have hoZ := ho2
            have hB0 := hEz.sz
            clear ho2 ho
            generalize wr = Vz at *
            refine region_relyF (fun listed W' => Ext w W' ∧ (listed 3 = false → Ext Vz W')) [some 49, some 50, some 51, some 52, some 53, some 54, some 55, some 8, some 9] [[], [], [1], [0, 1, 2], [], [], [4, 5], [0, 1, 2, 3], [0, 1, 2, 3, 4, 5, 6, 7]] [[], [], [1], [0, 2], [], [], [4, 5], [3], [6]] [none, none, none, none, none, none, none, some 3, none] [false, false, false, false, false, false, false, false, false] [.one (.slice aa 0 cc), .one (.int .i64 NV), RLi Vz.heap.size #[.int .i64 NV], RNi w.heap.size 1 (PV ++ [NV]), .one (.string R), .one (.int .i64 4), .one (.string (mkS (l.drop 4))), RSm 3, .one (.string (mkS (l.drop 4)))] (by kernel_rfl) (by kernel_rfl) rfl ⟨hEz.drew, fun _ => (Ext.refl Vz).drew⟩ ?_ ?_
            · refine stepsF_cons ?_ ?_
              · intro listed vs W' hl hI hd hs hn hu hz ho9
                refine hold ?_
                obtain ⟨x0, x1, x2, x3, x4, x5, x6, x7, x8, rfl⟩ := lenlit9 hl; clear hl
                refine held ?_
                simp only [putAll, Act.put, List.setIfInBounds_toArray, List.set_cons_succ, List.set_cons_zero]
                have h7z : listed 7 = false := by cases h : listed 7 with | false => rfl | true => exact absurd (by decide) (hu 7 h)
                obtain rfl : x7 = .slice aa 0 cc := ho9 7 (some 8) x7 h7z rfl rfl
                go_wp2_with fail
                exact relyE_done _ rfl rfl (Ext.refl _) ⟨hI.1, fun h => hI.2 (updE_false h)⟩
              refine stepsF_cons ?_ ?_
              · intro listed vs W' hl hI hd hs hn hu hz ho9
                refine hold ?_
                obtain ⟨x0, x1, x2, x3, x4, x5, x6, x7, x8, rfl⟩ := lenlit9 hl; clear hl
                refine held ?_
                simp only [putAll, Act.put, List.setIfInBounds_toArray, List.set_cons_succ, List.set_cons_zero]
                go_wp2_with fail
                exact relyE_done _ rfl rfl (Ext.refl _) ⟨hI.1, fun h => hI.2 (updE_false h)⟩
              refine stepsF_cons ?_ ?_
              · intro listed vs W' hl hI hd hs hn hu hz ho9
                refine hold ?_
                obtain ⟨x0, x1, x2, x3, x4, x5, x6, x7, x8, rfl⟩ := lenlit9 hl; clear hl
                simp only [factsL, atL, refV, List.getElem?_cons_succ, List.getElem?_cons_zero, List.getD_cons_succ, List.getD_cons_zero, RelL.one, RelL.any, RelL.blk, RelL.law, RNi, RLi, RSm] at hd
                obtain ⟨rfl, -⟩ := hd
                refine held ?_
                simp only [putAll, Act.put, List.setIfInBounds_toArray, List.set_cons_succ, List.set_cons_zero]
                go_wp2_with fail
                have h3z : listed 3 = false := by cases h : listed 3 with | false => rfl | true => exact absurd (by decide) (hu 3 h)
                exact relyE_done _ rfl ⟨_, rfl, (hI.2 h3z).sz, World.alloc_heap_new _ _⟩ ((Ext.refl _).alloc _) ⟨hI.1.alloc _, fun h => (hI.2 (updE_false h)).alloc _⟩
              refine stepsF_cons ?_ ?_
              · intro listed vs W' hl hI hd hs hn hu hz ho9
                refine hold ?_
                obtain ⟨x0, x1, x2, x3, x4, x5, x6, x7, x8, rfl⟩ := lenlit9 hl; clear hl
                simp only [factsL, atL, refV, List.getElem?_cons_succ, List.getElem?_cons_zero, List.getD_cons_succ, List.getD_cons_zero, RelL.one, RelL.any, RelL.blk, RelL.law, RNi, RLi, RSm] at hd
                obtain ⟨rfl, ⟨b2, rfl, hb2, hB2⟩, -⟩ := hd
                refine held ?_
                simp only [putAll, Act.put, List.setIfInBounds_toArray, List.set_cons_succ, List.set_cons_zero]
                have hz2 := hI.2 hz
                have hbz : w.heap.size ≤ W'.heap.size := by have := hz2.sz; have := hB0; omega
                have ho2 := hoZ.ext hz2
                have hlit : Sl .i64 W' (some ⟨b2, 0, none⟩) 1 1 [NV] := lit_of_block (E := 3) hB2 hwNV
                go_wp2_with (at_builtin; refine appSg el_i64 rfl _ _ rfl _ w.heap.size _ _ _ _ rfl ho2 _ _ _ _ rfl hlit (by omega) hbz (by unfold maxLen; omega) (by omega) ?_; intro g3 c3 w3 hop hB hg; refine hold ?_)
                refine held ?_
                exact wpList_nil (relyE_store _ rfl ⟨_, _, rfl, hop⟩ hB.size ⟨fun _ _ h => h, fun _ _ h => h, fun _ _ ⟨b, e1, e2, e3⟩ => ⟨b, e1, e2, (hg.block b (Array.getElem?_eq_some_iff.1 e3).1 (fun e => Nat.lt_irrefl _ (Nat.lt_of_lt_of_le (World.ownsRow.lt hoZ b e.symm).2 e2))).trans e3⟩, fun _ hk _ => absurd rfl hk, fun _ _ h => h, fun _ _ h => h, fun _ _ h => h, fun _ _ h => h, fun _ _ h => h, trivial⟩ ⟨Below.trans hI.1 hB, fun h => by simp [updE] at h⟩)
              refine stepsF_cons ?_ ?_
              · intro listed vs W' hl hI hd hs hn hu hz ho9
                refine hold ?_
                obtain ⟨x0, x1, x2, x3, x4, x5, x6, x7, x8, rfl⟩ := lenlit9 hl; clear hl
                refine held ?_
                simp only [putAll, Act.put, List.setIfInBounds_toArray, List.set_cons_succ, List.set_cons_zero]
                have h7z : listed 8 = false := by cases h : listed 8 with | false => rfl | true => exact absurd (by decide) (hu 8 h)
                obtain rfl : x8 = .string R := ho9 8 (some 9) x8 h7z rfl rfl
                go_wp2_with fail
                exact relyE_done _ rfl rfl (Ext.refl _) ⟨hI.1, fun h => hI.2 (updE_false h)⟩
              refine stepsF_cons ?_ ?_
              · intro listed vs W' hl hI hd hs hn hu hz ho9
                refine hold ?_
                obtain ⟨x0, x1, x2, x3, x4, x5, x6, x7, x8, rfl⟩ := lenlit9 hl; clear hl
                refine held ?_
                simp only [putAll, Act.put, List.setIfInBounds_toArray, List.set_cons_succ, List.set_cons_zero]
                go_wp2_with fail
                exact relyE_done _ rfl rfl (Ext.refl _) ⟨hI.1, fun h => hI.2 (updE_false h)⟩
              refine stepsF_cons ?_ ?_
              · intro listed vs W' hl hI hd hs hn hu hz ho9
                refine hold ?_
                obtain ⟨x0, x1, x2, x3, x4, x5, x6, x7, x8, rfl⟩ := lenlit9 hl; clear hl
                simp only [factsL, atL, refV, List.getElem?_cons_succ, List.getElem?_cons_zero, List.getD_cons_succ, List.getD_cons_zero, RelL.one, RelL.any, RelL.blk, RelL.law, RNi, RLi, RSm] at hd
                obtain ⟨rfl, rfl, -⟩ := hd
                refine held ?_
                simp only [putAll, Act.put, List.setIfInBounds_toArray, List.set_cons_succ, List.set_cons_zero]
                go_wp2_with fail
                exact relyE_done _ rfl rfl (Ext.refl _) ⟨hI.1, fun h => hI.2 (updE_false h)⟩
              refine stepsF_cons ?_ ?_
              · intro listed vs W' hl hI hd hs hn hu hz ho9
                refine hold ?_
                obtain ⟨x0, x1, x2, x3, x4, x5, x6, x7, x8, rfl⟩ := lenlit9 hl; clear hl
                simp only [factsL, atL, refV, List.getElem?_cons_succ, List.getElem?_cons_zero, List.getD_cons_succ, List.getD_cons_zero, RelL.one, RelL.any, RelL.blk, RelL.law, RNi, RLi, RSm] at hd
                obtain ⟨⟨g3, c3, rfl, h3⟩, -⟩ := hd
                refine held ?_
                simp only [putAll, Act.put, List.setIfInBounds_toArray, List.set_cons_succ, List.set_cons_zero]
                go_wp2_with fail
                exact relyE_done _ rfl rfl (Ext.refl _) ⟨hI.1, fun h => hI.2 (updE_false h)⟩
              refine stepsF_cons ?_ ?_
              · intro listed vs W' hl hI hd hs hn hu hz ho9
                refine hold ?_
                obtain ⟨x0, x1, x2, x3, x4, x5, x6, x7, x8, rfl⟩ := lenlit9 hl; clear hl
                simp only [factsL, atL, refV, List.getElem?_cons_succ, List.getElem?_cons_zero, List.getD_cons_succ, List.getD_cons_zero, RelL.one, RelL.any, RelL.blk, RelL.law, RNi, RLi, RSm] at hd
                obtain ⟨rfl, -⟩ := hd
                refine held ?_
                simp only [putAll, Act.put, List.setIfInBounds_toArray, List.set_cons_succ, List.set_cons_zero]
                go_wp2_with fail
                exact relyE_done _ rfl rfl (Ext.refl _) ⟨hI.1, fun h => hI.2 (updE_false h)⟩
              exact trivial
            · intro listed vs W' hl hall hI hd hn
              obtain ⟨x0, x1, x2, x3, x4, x5, x6, x7, x8, rfl⟩ := lenlit9 hl; clear hl
              simp only [List.length_cons, List.length_nil, List.range, List.range.loop, Nat.zero_add, Nat.reduceAdd, factsL, atL, refV, List.getElem?_cons_succ, List.getElem?_cons_zero, List.getD_cons_succ, List.getD_cons_zero, RelL.one, RelL.any, RelL.blk, RelL.law, RNi, RLi, RSm] at hd
              obtain ⟨rfl, rfl, -, ⟨g3, c3, rfl, h3⟩, rfl, rfl, rfl, rfl, rfl, -⟩ := hd
              simp only [putAll, Act.put, List.setIfInBounds_toArray, List.set_cons_succ, List.set_cons_zero]
              have hx := hI.1
              have hof2 : off 0 + wid 0 = 4 := rfl
              have HOF2 := Lib.hid hof2
              have hofn : off 1 = 5 := rfl
              have HOFN := Lib.hid hofn
              clear hof2 hofn hI hn hX2
              obtain ⟨RZ2, hRZ2⟩ : ∃ RZ2, l.length - 4 = RZ2 := ⟨_, rfl⟩
              have HXA := Lib.hid (show (mkS (l.drop 4)).size = RZ2 by rw [mkS_size, List.length_drop, hRZ2])
              have HXB := Lib.hid (show (mkS (l.drop 4)).extract 1 RZ2 = mkS (l.drop 5) by rw [mkS_extract, List.drop_drop, List.take_of_length_le (by rw [List.length_drop]; omega)])
              have HXT := Lib.hid (mkS_toList (l.drop 4))
              by_cases hne : 4 < l.length
              · have hemp : (mkS (l.drop 4)).toList.isEmpty = false := by
                  rw [HXT.out]
                  have : l.drop 4 ≠ [] := fun h => by have := congrArg List.length h; rw [List.length_drop] at this; simp at this; omega
                  cases h : l.drop 4 with
                  | nil => exact absurd h this
                  | cons a b => rfl
                have hix : ∀ W : World, (Instr.index 9 (.string (mkS (l.drop 4))) (.int .i64 0)).run Tryd.prog W = .ok (.int .u8 (nthB l 4)) W := fun W => by
                  have := index_mkS (l.drop 4) 0 (by rw [List.length_drop]; omega) 9 (by kernel_rfl) W
                  rw [nthB_drop] at this
                  exact this
                have q3 : (1 : Int) ≤ (RZ2 : Int) := by omega
                have HNE := Lib.hid hne
                have hXA := HXA.out
                have hXB := HXB.out
                clear hne hRZ2 HXA HXB HXT
                generalize mkS (l.drop 4) = R2 at *
                have HEM := Lib.hid hemp
                clear hemp
                by_cases hs : nthB l 4 = 45
                · have HS := Lib.hid hs
                  have HUP2 : Hid (okUp l 1 = true) := Lib.hid (by show (okUp l 0 && okG l 0) = true; rw [HUP.out]; unfold okG; rw [HOKW.out.1, decide_eq_true HOKW.out.2, HOF2.out, decide_eq_true HNE.out, decide_eq_true (show nthB l 4 = sgn 0 from HS.out)]; simp)
                  generalize nthB l 4 = XS at *
                  subst hs
                  go_upto_region 18 with fail
                  generalize W' = Wy at *
                  refine region_rely (S := Ext) (fun Wz => Ext Wy Wz) [some 60, some 61, some 62, some 63, some 64, some 65, some 66, some 67, some 68, some 69] [[], [0], [1], [2], [2, 3], [2], [2], [2, 5, 6], [2, 4, 7], [2, 8]] [[], [], [], [], [], [], [], [], [], []] [.one (.string R2), .one (.bool false), .one (.bool false), .one (.string R2), .one (.int .u8 45), .one (.string ⟨#[45, 45, 84, 58, 58, 46]⟩), .one (.int .i64 0), .one (.int .u8 45), .one (.bool false), .one (.bool false)] (by kernel_rfl) (by kernel_rfl) (Ext.refl Wy).drew ?_ ?_
                  · refine stepsR_cons ?_ ?_
                    · intro vs W' hl hI hd ho
                      refine hold ?_
                      obtain ⟨x0, x1, x2, x3, x4, x5, x6, x7, x8, x9, rfl⟩ := lenlit10 hl; clear hl
                      refine held ?_
                      simp only [putAll, Act.put, List.setIfInBounds_toArray, List.set_cons_succ, List.set_cons_zero]
                      go_wp2_with fail
                      exact rely_done _ rfl rfl (Ext.refl _) hI
                    refine stepsR_cons ?_ ?_
                    · intro vs W' hl hI hd ho
                      refine hold ?_
                      obtain ⟨x0, x1, x2, x3, x4, x5, x6, x7, x8, x9, rfl⟩ := lenlit10 hl; clear hl
                      simp only [factsR, atR, List.getElem?_cons_succ, List.getElem?_cons_zero, Rel.one, Rel.blk] at hd
                      obtain ⟨rfl, -⟩ := hd
                      refine held ?_
                      simp only [putAll, Act.put, List.setIfInBounds_toArray, List.set_cons_succ, List.set_cons_zero]
                      go_wp2_with fail
                      exact rely_done _ rfl (congrArg Value.bool HEM.out) (Ext.refl _) hI
                    refine stepsR_cons ?_ ?_
                    · intro vs W' hl hI hd ho
                      refine hold ?_
                      obtain ⟨x0, x1, x2, x3, x4, x5, x6, x7, x8, x9, rfl⟩ := lenlit10 hl; clear hl
                      simp only [factsR, atR, List.getElem?_cons_succ, List.getElem?_cons_zero, Rel.one, Rel.blk] at hd
                      obtain ⟨rfl, -⟩ := hd
                      refine held ?_
                      simp only [putAll, Act.put, List.setIfInBounds_toArray, List.set_cons_succ, List.set_cons_zero]
                      go_wp2_with fail
                      exact rely_done _ rfl rfl (Ext.refl _) hI
                    refine stepsR_cons ?_ ?_
                    · intro vs W' hl hI hd ho
                      refine hold ?_
                      obtain ⟨x0, x1, x2, x3, x4, x5, x6, x7, x8, x9, rfl⟩ := lenlit10 hl; clear hl
                      simp only [factsR, atR, List.getElem?_cons_succ, List.getElem?_cons_zero, Rel.one, Rel.blk] at hd
                      obtain ⟨rfl, -⟩ := hd
                      refine held ?_
                      simp only [putAll, Act.put, List.setIfInBounds_toArray, List.set_cons_succ, List.set_cons_zero]
                      go_wp2_with fail
                      exact rely_done _ rfl rfl (Ext.refl _) hI
                    refine stepsR_cons ?_ ?_
                    · intro vs W' hl hI hd ho
                      refine hold ?_
                      obtain ⟨x0, x1, x2, x3, x4, x5, x6, x7, x8, x9, rfl⟩ := lenlit10 hl; clear hl
                      simp only [factsR, atR, List.getElem?_cons_succ, List.getElem?_cons_zero, Rel.one, Rel.blk] at hd
                      obtain ⟨rfl, rfl, -⟩ := hd
                      refine held ?_
                      simp only [putAll, Act.put, List.setIfInBounds_toArray, List.set_cons_succ, List.set_cons_zero]
                      go_wp2_with fail
                      exact rely_done _ rfl rfl (Ext.refl _) hI
                    refine stepsR_cons ?_ ?_
                    · intro vs W' hl hI hd ho
                      refine hold ?_
                      obtain ⟨x0, x1, x2, x3, x4, x5, x6, x7, x8, x9, rfl⟩ := lenlit10 hl; clear hl
                      simp only [factsR, atR, List.getElem?_cons_succ, List.getElem?_cons_zero, Rel.one, Rel.blk] at hd
                      obtain ⟨rfl, -⟩ := hd
                      refine held ?_
                      simp only [putAll, Act.put, List.setIfInBounds_toArray, List.set_cons_succ, List.set_cons_zero]
                      go_wp2_with fail
                      exact rely_done _ rfl rfl (Ext.refl _) hI
                    refine stepsR_cons ?_ ?_
                    · intro vs W' hl hI hd ho
                      refine hold ?_
                      obtain ⟨x0, x1, x2, x3, x4, x5, x6, x7, x8, x9, rfl⟩ := lenlit10 hl; clear hl
                      simp only [factsR, atR, List.getElem?_cons_succ, List.getElem?_cons_zero, Rel.one, Rel.blk] at hd
                      obtain ⟨rfl, -⟩ := hd
                      refine held ?_
                      simp only [putAll, Act.put, List.setIfInBounds_toArray, List.set_cons_succ, List.set_cons_zero]
                      go_wp2_with fail
                      exact rely_done _ rfl rfl (Ext.refl _) hI
                    refine stepsR_cons ?_ ?_
                    · intro vs W' hl hI hd ho
                      refine hold ?_
                      obtain ⟨x0, x1, x2, x3, x4, x5, x6, x7, x8, x9, rfl⟩ := lenlit10 hl; clear hl
                      simp only [factsR, atR, List.getElem?_cons_succ, List.getElem?_cons_zero, Rel.one, Rel.blk] at hd
                      obtain ⟨rfl, rfl, rfl, -⟩ := hd
                      refine held ?_
                      simp only [putAll, Act.put, List.setIfInBounds_toArray, List.set_cons_succ, List.set_cons_zero]
                      go_wp2_with fail
                      exact rely_done _ rfl rfl (Ext.refl _) hI
                    refine stepsR_cons ?_ ?_
                    · intro vs W' hl hI hd ho
                      refine hold ?_
                      obtain ⟨x0, x1, x2, x3, x4, x5, x6, x7, x8, x9, rfl⟩ := lenlit10 hl; clear hl
                      simp only [factsR, atR, List.getElem?_cons_succ, List.getElem?_cons_zero, Rel.one, Rel.blk] at hd
                      obtain ⟨rfl, rfl, rfl, -⟩ := hd
                      refine held ?_
                      simp only [putAll, Act.put, List.setIfInBounds_toArray, List.set_cons_succ, List.set_cons_zero]
                      go_wp2_with fail
                      exact rely_done _ rfl rfl (Ext.refl _) hI
                    refine stepsR_cons ?_ ?_
                    · intro vs W' hl hI hd ho
                      refine hold ?_
                      obtain ⟨x0, x1, x2, x3, x4, x5, x6, x7, x8, x9, rfl⟩ := lenlit10 hl; clear hl
                      simp only [factsR, atR, List.getElem?_cons_succ, List.getElem?_cons_zero, Rel.one, Rel.blk] at hd
                      obtain ⟨rfl, rfl, -⟩ := hd
                      refine held ?_
                      simp only [putAll, Act.put, List.setIfInBounds_toArray, List.set_cons_succ, List.set_cons_zero]
                      go_wp2_with fail
                      exact rely_done _ rfl rfl (Ext.refl _) hI
                    exact trivial
                  · intro vs W' hl hI hd
                    obtain ⟨x0, x1, x2, x3, x4, x5, x6, x7, x8, x9, rfl⟩ := lenlit10 hl; clear hl
                    simp only [List.length_cons, List.length_nil, List.range, List.range.loop, Nat.zero_add, Nat.reduceAdd, factsR, atR, List.getElem?_cons_succ, List.getElem?_cons_zero, Rel.one, Rel.blk] at hd
                    obtain ⟨rfl, rfl, rfl, rfl, rfl, rfl, rfl, rfl, rfl, rfl, -⟩ := hd
                    simp only [putAll, Act.put, List.setIfInBounds_toArray, List.set_cons_succ, List.set_cons_zero]
                    replace hx := hx.trans hI
                    go_wp2_with fail
                    exact ⟨⟨1, _, c3, by omega, by simp, rfl, rfl, by rw [HPV.out]; exact h3.ext hI, HUP2.out, hx⟩, by simp only [intOf]; omega⟩
                · have hno : Hid (fmtB l = false) := Lib.hid (fmtB_no (k := 0) (by decide) (by unfold okG; rw [decide_eq_false (show ¬ 0 = 6 by decide), HOF2.out, decide_eq_false (show ¬ nthB l 4 = sgn 0 from hs)]; simp))
                  generalize nthB l 4 = XS at *
                  have HSN := Lib.hid hs
                  clear hs
                  go_upto_region 18 with fail
                  generalize W' = Wy at *
                  refine region_rely (S := Ext) (fun Wz => Ext Wy Wz) [some 60, some 61, some 62, some 63, some 64, some 65, some 66, some 67, some 68, some 69] [[], [0], [1], [2], [2, 3], [2], [2], [2, 5, 6], [2, 4, 7], [2, 8]] [[], [], [], [], [], [], [], [], [], []] [.one (.string R2), .one (.bool false), .one (.bool false), .one (.string R2), .one (.int .u8 XS), .one (.string ⟨#[45, 45, 84, 58, 58, 46]⟩), .one (.int .i64 0), .one (.int .u8 45), .one (.bool true), .one (.bool true)] (by kernel_rfl) (by kernel_rfl) (Ext.refl Wy).drew ?_ ?_
                  · refine stepsR_cons ?_ ?_
                    · intro vs W' hl hI hd ho
                      refine hold ?_
                      obtain ⟨x0, x1, x2, x3, x4, x5, x6, x7, x8, x9, rfl⟩ := lenlit10 hl; clear hl
                      refine held ?_
                      simp only [putAll, Act.put, List.setIfInBounds_toArray, List.set_cons_succ, List.set_cons_zero]
                      go_wp2_with fail
                      exact rely_done _ rfl rfl (Ext.refl _) hI
                    refine stepsR_cons ?_ ?_
                    · intro vs W' hl hI hd ho
                      refine hold ?_
                      obtain ⟨x0, x1, x2, x3, x4, x5, x6, x7, x8, x9, rfl⟩ := lenlit10 hl; clear hl
                      simp only [factsR, atR, List.getElem?_cons_succ, List.getElem?_cons_zero, Rel.one, Rel.blk] at hd
                      obtain ⟨rfl, -⟩ := hd
                      refine held ?_
                      simp only [putAll, Act.put, List.setIfInBounds_toArray, List.set_cons_succ, List.set_cons_zero]
                      go_wp2_with fail
                      exact rely_done _ rfl (congrArg Value.bool HEM.out) (Ext.refl _) hI
                    refine stepsR_cons ?_ ?_
                    · intro vs W' hl hI hd ho
                      refine hold ?_
                      obtain ⟨x0, x1, x2, x3, x4, x5, x6, x7, x8, x9, rfl⟩ := lenlit10 hl; clear hl
                      simp only [factsR, atR, List.getElem?_cons_succ, List.getElem?_cons_zero, Rel.one, Rel.blk] at hd
                      obtain ⟨rfl, -⟩ := hd
                      refine held ?_
                      simp only [putAll, Act.put, List.setIfInBounds_toArray, List.set_cons_succ, List.set_cons_zero]
                      go_wp2_with fail
                      exact rely_done _ rfl rfl (Ext.refl _) hI
                    refine stepsR_cons ?_ ?_
                    · intro vs W' hl hI hd ho
                      refine hold ?_
                      obtain ⟨x0, x1, x2, x3, x4, x5, x6, x7, x8, x9, rfl⟩ := lenlit10 hl; clear hl
                      simp only [factsR, atR, List.getElem?_cons_succ, List.getElem?_cons_zero, Rel.one, Rel.blk] at hd
                      obtain ⟨rfl, -⟩ := hd
                      refine held ?_
                      simp only [putAll, Act.put, List.setIfInBounds_toArray, List.set_cons_succ, List.set_cons_zero]
                      go_wp2_with fail
                      exact rely_done _ rfl rfl (Ext.refl _) hI
                    refine stepsR_cons ?_ ?_
                    · intro vs W' hl hI hd ho
                      refine hold ?_
                      obtain ⟨x0, x1, x2, x3, x4, x5, x6, x7, x8, x9, rfl⟩ := lenlit10 hl; clear hl
                      simp only [factsR, atR, List.getElem?_cons_succ, List.getElem?_cons_zero, Rel.one, Rel.blk] at hd
                      obtain ⟨rfl, rfl, -⟩ := hd
                      refine held ?_
                      simp only [putAll, Act.put, List.setIfInBounds_toArray, List.set_cons_succ, List.set_cons_zero]
                      go_wp2_with fail
                      exact rely_done _ rfl rfl (Ext.refl _) hI
                    refine stepsR_cons ?_ ?_
                    · intro vs W' hl hI hd ho
                      refine hold ?_
                      obtain ⟨x0, x1, x2, x3, x4, x5, x6, x7, x8, x9, rfl⟩ := lenlit10 hl; clear hl
                      simp only [factsR, atR, List.getElem?_cons_succ, List.getElem?_cons_zero, Rel.one, Rel.blk] at hd
                      obtain ⟨rfl, -⟩ := hd
                      refine held ?_
                      simp only [putAll, Act.put, List.setIfInBounds_toArray, List.set_cons_succ, List.set_cons_zero]
                      go_wp2_with fail
                      exact rely_done _ rfl rfl (Ext.refl _) hI
                    refine stepsR_cons ?_ ?_
                    · intro vs W' hl hI hd ho
                      refine hold ?_
                      obtain ⟨x0, x1, x2, x3, x4, x5, x6, x7, x8, x9, rfl⟩ := lenlit10 hl; clear hl
                      simp only [factsR, atR, List.getElem?_cons_succ, List.getElem?_cons_zero, Rel.one, Rel.blk] at hd
                      obtain ⟨rfl, -⟩ := hd
                      refine held ?_
                      simp only [putAll, Act.put, List.setIfInBounds_toArray, List.set_cons_succ, List.set_cons_zero]
                      go_wp2_with fail
                      exact rely_done _ rfl rfl (Ext.refl _) hI
                    refine stepsR_cons ?_ ?_
                    · intro vs W' hl hI hd ho
                      refine hold ?_
                      obtain ⟨x0, x1, x2, x3, x4, x5, x6, x7, x8, x9, rfl⟩ := lenlit10 hl; clear hl
                      simp only [factsR, atR, List.getElem?_cons_succ, List.getElem?_cons_zero, Rel.one, Rel.blk] at hd
                      obtain ⟨rfl, rfl, rfl, -⟩ := hd
                      refine held ?_
                      simp only [putAll, Act.put, List.setIfInBounds_toArray, List.set_cons_succ, List.set_cons_zero]
                      go_wp2_with fail
                      exact rely_done _ rfl rfl (Ext.refl _) hI
                    refine stepsR_cons ?_ ?_
                    · intro vs W' hl hI hd ho
                      refine hold ?_
                      obtain ⟨x0, x1, x2, x3, x4, x5, x6, x7, x8, x9, rfl⟩ := lenlit10 hl; clear hl
                      simp only [factsR, atR, List.getElem?_cons_succ, List.getElem?_cons_zero, Rel.one, Rel.blk] at hd
                      obtain ⟨rfl, rfl, rfl, -⟩ := hd
                      refine held ?_
                      simp only [putAll, Act.put, List.setIfInBounds_toArray, List.set_cons_succ, List.set_cons_zero]
                      go_wp2_with fail
                      exact rely_done _ rfl (congrArg Value.bool (bne_iff_ne.2 HSN.out)) (Ext.refl _) hI
                    refine stepsR_cons ?_ ?_
                    · intro vs W' hl hI hd ho
                      refine hold ?_
                      obtain ⟨x0, x1, x2, x3, x4, x5, x6, x7, x8, x9, rfl⟩ := lenlit10 hl; clear hl
                      simp only [factsR, atR, List.getElem?_cons_succ, List.getElem?_cons_zero, Rel.one, Rel.blk] at hd
                      obtain ⟨rfl, rfl, -⟩ := hd
                      refine held ?_
                      simp only [putAll, Act.put, List.setIfInBounds_toArray, List.set_cons_succ, List.set_cons_zero]
                      go_wp2_with fail
                      exact rely_done _ rfl rfl (Ext.refl _) hI
                    exact trivial
                  · intro vs W' hl hI hd
                    obtain ⟨x0, x1, x2, x3, x4, x5, x6, x7, x8, x9, rfl⟩ := lenlit10 hl; clear hl
                    simp only [List.length_cons, List.length_nil, List.range, List.range.loop, Nat.zero_add, Nat.reduceAdd, factsR, atR, List.getElem?_cons_succ, List.getElem?_cons_zero, Rel.one, Rel.blk] at hd
                    obtain ⟨rfl, rfl, rfl, rfl, rfl, rfl, rfl, rfl, rfl, rfl, -⟩ := hd
                    simp only [putAll, Act.put, List.setIfInBounds_toArray, List.set_cons_succ, List.set_cons_zero]
                    replace hx := hx.trans hI
                    go_wp2_with fail
                    (try rw [Exit.noGoto_ret])
                    go_ret2
                    exact ⟨none, 0, 0, false, rfl, hx, hno.out.symm, fun h => by cases h⟩
              · have hno : Hid (fmtB l = false) := Lib.hid (fmtB_no (k := 0) (by decide) (by unfold okG; rw [decide_eq_false (show ¬ 0 = 6 by decide), HOF2.out, decide_eq_false hne]; simp))
                have hemp : (mkS (l.drop 4)).toList.isEmpty = true := by
                  rw [HXT.out, List.drop_of_length_le (by omega)]; rfl
                clear hRZ2 HXA HXB HXT
                generalize mkS (l.drop 4) = R2 at *
                have HEM := Lib.hid hemp
                clear hemp
                go_upto_region 18 with fail
                generalize W' = Wy at *
                refine region_rely (S := Ext) (fun Wz => Ext Wy Wz) [some 60, some 61, some 62, some 63, some 64, some 65, some 66, some 67, some 68, some 69] [[], [0], [1], [2], [2, 3], [2], [2], [2, 5, 6], [2, 4, 7], [2, 8]] [[], [], [], [], [], [], [], [], [], []] [.one (.string R2), .one (.bool true), .one (.bool true), .one (undef), .one (undef), .one (undef), .one (undef), .one (undef), .one (undef), .one (.bool true)] (by kernel_rfl) (by kernel_rfl) (Ext.refl Wy).drew ?_ ?_
                · refine stepsR_cons ?_ ?_
                  · intro vs W' hl hI hd ho
                    refine hold ?_
                    obtain ⟨x0, x1, x2, x3, x4, x5, x6, x7, x8, x9, rfl⟩ := lenlit10 hl; clear hl
                    refine held ?_
                    simp only [putAll, Act.put, List.setIfInBounds_toArray, List.set_cons_succ, List.set_cons_zero]
                    go_wp2_with fail
                    exact rely_done _ rfl rfl (Ext.refl _) hI
                  refine stepsR_cons ?_ ?_
                  · intro vs W' hl hI hd ho
                    refine hold ?_
                    obtain ⟨x0, x1, x2, x3, x4, x5, x6, x7, x8, x9, rfl⟩ := lenlit10 hl; clear hl
                    simp only [factsR, atR, List.getElem?_cons_succ, List.getElem?_cons_zero, Rel.one, Rel.blk] at hd
                    obtain ⟨rfl, -⟩ := hd
                    refine held ?_
                    simp only [putAll, Act.put, List.setIfInBounds_toArray, List.set_cons_succ, List.set_cons_zero]
                    go_wp2_with fail
                    exact rely_done _ rfl (congrArg Value.bool HEM.out) (Ext.refl _) hI
                  refine stepsR_cons ?_ ?_
                  · intro vs W' hl hI hd ho
                    refine hold ?_
                    obtain ⟨x0, x1, x2, x3, x4, x5, x6, x7, x8, x9, rfl⟩ := lenlit10 hl; clear hl
                    simp only [factsR, atR, List.getElem?_cons_succ, List.getElem?_cons_zero, Rel.one, Rel.blk] at hd
                    obtain ⟨rfl, -⟩ := hd
                    refine held ?_
                    simp only [putAll, Act.put, List.setIfInBounds_toArray, List.set_cons_succ, List.set_cons_zero]
                    go_wp2_with fail
                    exact rely_done _ rfl rfl (Ext.refl _) hI
                  refine stepsR_cons ?_ ?_
                  · intro vs W' hl hI hd ho
                    refine hold ?_
                    obtain ⟨x0, x1, x2, x3, x4, x5, x6, x7, x8, x9, rfl⟩ := lenlit10 hl; clear hl
                    simp only [factsR, atR, List.getElem?_cons_succ, List.getElem?_cons_zero, Rel.one, Rel.blk] at hd
                    obtain ⟨rfl, -⟩ := hd
                    refine held ?_
                    simp only [putAll, Act.put, List.setIfInBounds_toArray, List.set_cons_succ, List.set_cons_zero]
                    skip
                    exact rely_undef (by rfl) rfl rfl (Ext.refl _) hI
                  refine stepsR_cons ?_ ?_
                  · intro vs W' hl hI hd ho
                    refine hold ?_
                    obtain ⟨x0, x1, x2, x3, x4, x5, x6, x7, x8, x9, rfl⟩ := lenlit10 hl; clear hl
                    simp only [factsR, atR, List.getElem?_cons_succ, List.getElem?_cons_zero, Rel.one, Rel.blk] at hd
                    obtain ⟨rfl, rfl, -⟩ := hd
                    refine held ?_
                    simp only [putAll, Act.put, List.setIfInBounds_toArray, List.set_cons_succ, List.set_cons_zero]
                    skip
                    exact rely_undef (by rfl) rfl rfl (Ext.refl _) hI
                  refine stepsR_cons ?_ ?_
                  · intro vs W' hl hI hd ho
                    refine hold ?_
                    obtain ⟨x0, x1, x2, x3, x4, x5, x6, x7, x8, x9, rfl⟩ := lenlit10 hl; clear hl
                    simp only [factsR, atR, List.getElem?_cons_succ, List.getElem?_cons_zero, Rel.one, Rel.blk] at hd
                    obtain ⟨rfl, -⟩ := hd
                    refine held ?_
                    simp only [putAll, Act.put, List.setIfInBounds_toArray, List.set_cons_succ, List.set_cons_zero]
                    skip
                    exact rely_undef (by rfl) rfl rfl (Ext.refl _) hI
                  refine stepsR_cons ?_ ?_
                  · intro vs W' hl hI hd ho
                    refine hold ?_
                    obtain ⟨x0, x1, x2, x3, x4, x5, x6, x7, x8, x9, rfl⟩ := lenlit10 hl; clear hl
                    simp only [factsR, atR, List.getElem?_cons_succ, List.getElem?_cons_zero, Rel.one, Rel.blk] at hd
                    obtain ⟨rfl, -⟩ := hd
                    refine held ?_
                    simp only [putAll, Act.put, List.setIfInBounds_toArray, List.set_cons_succ, List.set_cons_zero]
                    skip
                    exact rely_undef (by rfl) rfl rfl (Ext.refl _) hI
                  refine stepsR_cons ?_ ?_
                  · intro vs W' hl hI hd ho
                    refine hold ?_
                    obtain ⟨x0, x1, x2, x3, x4, x5, x6, x7, x8, x9, rfl⟩ := lenlit10 hl; clear hl
                    simp only [factsR, atR, List.getElem?_cons_succ, List.getElem?_cons_zero, Rel.one, Rel.blk] at hd
                    obtain ⟨rfl, rfl, rfl, -⟩ := hd
                    refine held ?_
                    simp only [putAll, Act.put, List.setIfInBounds_toArray, List.set_cons_succ, List.set_cons_zero]
                    skip
                    exact rely_undef (by rfl) rfl rfl (Ext.refl _) hI
                  refine stepsR_cons ?_ ?_
                  · intro vs W' hl hI hd ho
                    refine hold ?_
                    obtain ⟨x0, x1, x2, x3, x4, x5, x6, x7, x8, x9, rfl⟩ := lenlit10 hl; clear hl
                    simp only [factsR, atR, List.getElem?_cons_succ, List.getElem?_cons_zero, Rel.one, Rel.blk] at hd
                    obtain ⟨rfl, rfl, rfl, -⟩ := hd
                    refine held ?_
                    simp only [putAll, Act.put, List.setIfInBounds_toArray, List.set_cons_succ, List.set_cons_zero]
                    skip
                    exact rely_undef (by rfl) rfl rfl (Ext.refl _) hI
                  refine stepsR_cons ?_ ?_
                  · intro vs W' hl hI hd ho
                    refine hold ?_
                    obtain ⟨x0, x1, x2, x3, x4, x5, x6, x7, x8, x9, rfl⟩ := lenlit10 hl; clear hl
                    simp only [factsR, atR, List.getElem?_cons_succ, List.getElem?_cons_zero, Rel.one, Rel.blk] at hd
                    obtain ⟨rfl, rfl, -⟩ := hd
                    refine held ?_
                    simp only [putAll, Act.put, List.setIfInBounds_toArray, List.set_cons_succ, List.set_cons_zero]
                    go_wp2_with fail
                    exact rely_done _ rfl rfl (Ext.refl _) hI
                  exact trivial
                · intro vs W' hl hI hd
                  obtain ⟨x0, x1, x2, x3, x4, x5, x6, x7, x8, x9, rfl⟩ := lenlit10 hl; clear hl
                  simp only [List.length_cons, List.length_nil, List.range, List.range.loop, Nat.zero_add, Nat.reduceAdd, factsR, atR, List.getElem?_cons_succ, List.getElem?_cons_zero, Rel.one, Rel.blk] at hd
                  obtain ⟨rfl, rfl, rfl, rfl, rfl, rfl, rfl, rfl, rfl, rfl, -⟩ := hd
                  simp only [putAll, Act.put, List.setIfInBounds_toArray, List.set_cons_succ, List.set_cons_zero]
                  replace hx := hx.trans hI
                  go_wp2_with fail
                  (try rw [Exit.noGoto_ret])
                  go_ret2
                  exact ⟨none, 0, 0, false, rfl, hx, hno.out.symm, fun h => by cases h⟩
      · have hno : Hid (fmtB l = false) := Lib.hid (fmtB_no (k := 0) (by decide) (by unfold okG; rw [HOF.out]; rw [decide_eq_false (by rw [HWD.out]; exact hlen)]; rfl))
        have q1 : (RZ : Int) < 4 := by omega
        generalize mkS (l.drop 0) = R at *
        clear hX1 hX2 hR0
        go_wp2_with fail
        (try rw [Exit.noGoto_ret])
        go_ret2
        exact ⟨none, 0, 0, false, rfl, hx, hno.out.symm, fun h => by cases h⟩
    · have p := hdr.c 1 _ rfl
      have hof : off 1 = 5 := rfl
      have HOF := Lib.hid hof
      have hwd : wid 1 = 2 := rfl
      have HWD := Lib.hid hwd
      rw [hof]
      obtain ⟨RZ, hRZ⟩ : ∃ RZ, l.length - 5 = RZ := ⟨_, rfl⟩
      have hRz : (mkS (l.drop 5)).size = RZ := by rw [mkS_size, List.length_drop, hRZ]
      have hX1 : (mkS (l.drop 5)).extract 0 2 = mkS ((l.drop 5).take 2) := by rw [mkS_extract]; simp
      have hX2 : (mkS (l.drop 5)).extract 2 RZ = mkS (l.drop 7) := by
        rw [mkS_extract, List.drop_drop, List.take_of_length_le (by rw [List.length_drop]; omega)]
      by_cases hlen : 5 + 2 ≤ l.length
      · have q1 : (2 : Int) ≤ (RZ : Int) := by omega
        have q2 : ¬ ((RZ : Int) < 2) := by omega
        have hGs : (mkS ((l.drop 5).take 2)).size = 2 := by rw [mkS_size, List.length_take, List.length_drop]; omega
        have hcv := run_bytes_of_string (P := Tryd.prog) wr 9 66 5 (mkS ((l.drop 5).take 2)) (by kernel_rfl) (by kernel_rfl) (by kernel_rfl)
        rw [hGs] at hcv
        have hbc : ∀ j, j < 2 → (wr.drew.alloc (.cells (bytesRow (mkS ((l.drop 5).take 2)) (grownCap wr 2 0 5)) 5 ((bytesRow (mkS ((l.drop 5).take 2)) (grownCap wr 2 0 5)).size, (bytesRow (mkS ((l.drop 5).take 2)) (grownCap wr 2 0 5)).size + 1))).cell? ⟨wr.heap.size, j, none⟩ = some (.int .u8 (nthB l (5 + j))) := fun j hj => by
          rw [← nthB_drop l 5 j, ← nthB_take (l.drop 5) 2 j hj]
          exact bytes_cell wr.drew _ _ _ _ j (by rw [List.length_take, List.length_drop]; omega)
        have hEc : Ext wr (wr.drew.alloc (.cells (bytesRow (mkS ((l.drop 5).take 2)) (grownCap wr 2 0 5)) 5 ((bytesRow (mkS ((l.drop 5).take 2)) (grownCap wr 2 0 5)).size, (bytesRow (mkS ((l.drop 5).take 2)) (grownCap wr 2 0 5)).size + 1))) := (Ext.refl wr).drew.alloc _
        generalize wr.drew.alloc (.cells (bytesRow (mkS ((l.drop 5).take 2)) (grownCap wr 2 0 5)) 5 ((bytesRow (mkS ((l.drop 5).take 2)) (grownCap wr 2 0 5)).size, (bytesRow (mkS ((l.drop 5).take 2)) (grownCap wr 2 0 5)).size + 1)) = W1 at *
        generalize grownCap wr 2 0 5 = CP at *
        generalize hGG : mkS ((l.drop 5).take 2) = GG at *
        clear hGG
        have HBC := Lib.hid hbc
        have HLEN := Lib.hid hlen
        have HX2 := Lib.hid hX2
        have HRZ := Lib.hid hRZ
        have hbl : wr.heap.size = wr.heap.size := rfl
        obtain ⟨bb, hbb⟩ : ∃ bb, wr.heap.size = bb := ⟨_, rfl⟩
        rw [hbb] at hcv HBC
        clear hbc hlen hX2 hR0 hbl hbb
        generalize mkS (l.drop 5) = R at *
        go_wp2_with fail
        go_loopw [12, 32] (fun nn j wq => ∃ (i : Nat), i ≤ 2 ∧ j = .int .i64 (i : Int) ∧ nn = .int .i64 (numB l 5 i) ∧ allB l 5 i = true ∧ Ext W1 wq) (fun _ j _ => 2 - (intOf j).toNat)
        case atStart => exact ⟨0, by omega, rfl, rfl, rfl, Ext.refl _⟩
        case round =>
          obtain ⟨i, hi, rfl, rfl, hal, hy⟩ := hrel
          have hEq := hEc.trans hy
          have HAL := Lib.hid hal
          have hnb := numB_bd hal
          have hpow : (10 : Int) ^ i ≤ 1000000 := by
            have := Nat.pow_le_pow_right (show 0 < 10 by decide) (show i ≤ 6 by omega)
            have h2 : ((10 ^ i : Nat) : Int) ≤ ((10 ^ 6 : Nat) : Int) := by exact_mod_cast this
            simpa using h2
          have hnb2 : 0 ≤ numB l 5 i ∧ numB l 5 i < 1000000 := by omega
          clear hal hnb hpow
          by_cases hlt2 : i < 2
          · have c8 := hy.cell (HBC.out i hlt2)
            have HNS : Hid (numB l 5 (i + 1) = 10 * numB l 5 i + (nthB l (5 + i) - 48)) := Lib.hid rfl
            have hbb2 := nthB_bd l (5 + i)
            have HAS : Hid (digB (nthB l (5 + i)) = true → allB l 5 (i + 1) = true) := Lib.hid (fun h => by simp only [allB]; rw [HAL.out, h]; rfl)
            have HAN : Hid (digB (nthB l (5 + i)) = false → allB l 5 2 = false) := Lib.hid (fun h => allB_not hlt2 h)
            generalize numB l 5 i = NN at *
            generalize nthB l (5 + i) = XB at *
            by_cases hd1 : 48 ≤ XB
            · by_cases hd2 : XB ≤ 57
              · have hd1' : ¬ XB < 48 := by omega
                have hd2' : ¬ 57 < XB := by omega
                have HDG := Lib.hid (HAS.out (digB_iff.2 ⟨hd1, hd2⟩))
                go_wp2_with fail
                exact ⟨⟨i + 1, by omega, by go_num, by rw [HNS.out], HDG.out, hy⟩, by simp only [intOf]; omega⟩
              · have hd2' : 57 < XB := by omega
                have hd1' : ¬ XB < 48 := by omega
                have hf := HAN.out (by rw [Bool.eq_false_iff]; exact fun h => hd2 (digB_iff.1 h).2)
                have hno : Hid (fmtB l = false) := Lib.hid (fmtB_no (k := 1) (by decide) (by unfold okG; rw [HOF.out]; rw [HWD.out, hf]; simp))
                clear hf
                go_wp2_with fail
                (try rw [Exit.noGoto_ret])
                go_ret2
                exact ⟨none, 0, 0, false, rfl, hx.trans hEq, hno.out.symm, fun h => by cases h⟩
            · have hd1' : XB < 48 := by omega
              have hf := HAN.out (by rw [Bool.eq_false_iff]; exact fun h => hd1 (digB_iff.1 h).1)
              have hno : Hid (fmtB l = false) := Lib.hid (fmtB_no (k := 1) (by decide) (by unfold okG; rw [HOF.out]; rw [HWD.out, hf]; simp))
              clear hf
              go_wp2_with fail
              (try rw [Exit.noGoto_ret])
              go_ret2
              exact ⟨none, 0, 0, false, rfl, hx.trans hEq, hno.out.symm, fun h => by cases h⟩
          · obtain rfl : i = 2 := by omega
            have hNV : valB l 1 = numB l 5 2 := rfl
            have hPV : valsB l 2 = valsB l 1 ++ [valB l 1] := rfl
            rw [hNV] at hPV
            have HPV := Lib.hid hPV
            clear hNV hPV
            have ho2 := ho.ext hEq
            have hxq := hx.trans hEq
            generalize numB l 5 2 = NV at *
            generalize valsB l 1 = PV at *
            have hwNV : (Lit.int .i64 NV).wf = true := wfi (by omega) (by omega)
            have hX2 := HX2.out
            go_upto_region 16 with fail
            have hEz := hxq
            have HOKW : Hid (allB l (off 1) (wid 1) = true ∧ off 1 + wid 1 ≤ l.length) := Lib.hid ⟨HAL.out, HLEN.out⟩
            clear hxq hEq hy hEc hx hcv HBC HAL hdr p q2
            have hoZ := ho2
            have hB0 := hEz.sz
            clear ho2 ho
            generalize wr = Vz at *
            refine region_relyF (fun listed W' => Ext w W' ∧ (listed 3 = false → Ext Vz W')) [some 49, some 50, some 51, some 52, some 53, some 54, some 55, some 8, some 9] [[], [], [1], [0, 1, 2], [], [], [4, 5], [0, 1, 2, 3], [0, 1, 2, 3, 4, 5, 6, 7]] [[], [], [1], [0, 2], [], [], [4, 5], [3], [6]] [none, none, none, none, none, none, none, some 3, none] [false, false, false, false, false, false, false, false, false] [.one (.slice aa 1 cc), .one (.int .i64 NV), RLi Vz.heap.size #[.int .i64 NV], RNi w.heap.size 2 (PV ++ [NV]), .one (.string R), .one (.int .i64 2), .one (.string (mkS (l.drop 7))), RSm 3, .one (.string (mkS (l.drop 7)))] (by kernel_rfl) (by kernel_rfl) rfl ⟨hEz.drew, fun _ => (Ext.refl Vz).drew⟩ ?_ ?_
            · refine stepsF_cons ?_ ?_
              · intro listed vs W' hl hI hd hs hn hu hz ho9
                refine hold ?_
                obtain ⟨x0, x1, x2, x3, x4, x5, x6, x7, x8, rfl⟩ := lenlit9 hl; clear hl
                refine held ?_
                simp only [putAll, Act.put, List.setIfInBounds_toArray, List.set_cons_succ, List.set_cons_zero]
                have h7z : listed 7 = false := by cases h : listed 7 with | false => rfl | true => exact absurd (by decide) (hu 7 h)
                obtain rfl : x7 = .slice aa 1 cc := ho9 7 (some 8) x7 h7z rfl rfl
                go_wp2_with fail
                exact relyE_done _ rfl rfl (Ext.refl _) ⟨hI.1, fun h => hI.2 (updE_false h)⟩
              refine stepsF_cons ?_ ?_
              · intro listed vs W' hl hI hd hs hn hu hz ho9
                refine hold ?_
                obtain ⟨x0, x1, x2, x3, x4, x5, x6, x7, x8, rfl⟩ := lenlit9 hl; clear hl
                refine held ?_
                simp only [putAll, Act.put, List.setIfInBounds_toArray, List.set_cons_succ, List.set_cons_zero]
                go_wp2_with fail
                exact relyE_done _ rfl rfl (Ext.refl _) ⟨hI.1, fun h => hI.2 (updE_false h)⟩
              refine stepsF_cons ?_ ?_
              · intro listed vs W' hl hI hd hs hn hu hz ho9
                refine hold ?_
                obtain ⟨x0, x1, x2, x3, x4, x5, x6, x7, x8, rfl⟩ := lenlit9 hl; clear hl
                simp only [factsL, atL, refV, List.getElem?_cons_succ, List.getElem?_cons_zero, List.getD_cons_succ, List.getD_cons_zero, RelL.one, RelL.any, RelL.blk, RelL.law, RNi, RLi, RSm] at hd
                obtain ⟨rfl, -⟩ := hd
                refine held ?_
                simp only [putAll, Act.put, List.setIfInBounds_toArray, List.set_cons_succ, List.set_cons_zero]
                go_wp2_with fail
                have h3z : listed 3 = false := by cases h : listed 3 with | false => rfl | true => exact absurd (by decide) (hu 3 h)
                exact relyE_done _ rfl ⟨_, rfl, (hI.2 h3z).sz, World.alloc_heap_new _ _⟩ ((Ext.refl _).alloc _) ⟨hI.1.alloc _, fun h => (hI.2 (updE_false h)).alloc _⟩
              refine stepsF_cons ?_ ?_
              · intro listed vs W' hl hI hd hs hn hu hz ho9
                refine hold ?_
                obtain ⟨x0, x1, x2, x3, x4, x5, x6, x7, x8, rfl⟩ := lenlit9 hl; clear hl
                simp only [factsL, atL, refV, List.getElem?_cons_succ, List.getElem?_cons_zero, List.getD_cons_succ, List.getD_cons_zero, RelL.one, RelL.any, RelL.blk, RelL.law, RNi, RLi, RSm] at hd
                obtain ⟨rfl, ⟨b2, rfl, hb2, hB2⟩, -⟩ := hd
                refine held ?_
                simp only [putAll, Act.put, List.setIfInBounds_toArray, List.set_cons_succ, List.set_cons_zero]
                have hz2 := hI.2 hz
                have hbz : w.heap.size ≤ W'.heap.size := by have := hz2.sz; have := hB0; omega
                have ho2 := hoZ.ext hz2
                have hlit : Sl .i64 W' (some ⟨b2, 0, none⟩) 1 1 [NV] := lit_of_block (E := 3) hB2 hwNV
                go_wp2_with (at_builtin; refine appSg el_i64 rfl _ _ rfl _ w.heap.size _ _ _ _ rfl ho2 _ _ _ _ rfl hlit (by omega) hbz (by unfold maxLen; omega) (by omega) ?_; intro g3 c3 w3 hop hB hg; refine hold ?_)
                refine held ?_
                exact wpList_nil (relyE_store _ rfl ⟨_, _, rfl, hop⟩ hB.size ⟨fun _ _ h => h, fun _ _ h => h, fun _ _ ⟨b, e1, e2, e3⟩ => ⟨b, e1, e2, (hg.block b (Array.getElem?_eq_some_iff.1 e3).1 (fun e => Nat.lt_irrefl _ (Nat.lt_of_lt_of_le (World.ownsRow.lt hoZ b e.symm).2 e2))).trans e3⟩, fun _ hk _ => absurd rfl hk, fun _ _ h => h, fun _ _ h => h, fun _ _ h => h, fun _ _ h => h, fun _ _ h => h, trivial⟩ ⟨Below.trans hI.1 hB, fun h => by simp [updE] at h⟩)
              refine stepsF_cons ?_ ?_
              · intro listed vs W' hl hI hd hs hn hu hz ho9
                refine hold ?_
                obtain ⟨x0, x1, x2, x3, x4, x5, x6, x7, x8, rfl⟩ := lenlit9 hl; clear hl
                refine held ?_
                simp only [putAll, Act.put, List.setIfInBounds_toArray, List.set_cons_succ, List.set_cons_zero]
                have h7z : listed 8 = false := by cases h : listed 8 with | false => rfl | true => exact absurd (by decide) (hu 8 h)
                obtain rfl : x8 = .string R := ho9 8 (some 9) x8 h7z rfl rfl
                go_wp2_with fail
                exact relyE_done _ rfl rfl (Ext.refl _) ⟨hI.1, fun h => hI.2 (updE_false h)⟩
              refine stepsF_cons ?_ ?_
              · intro listed vs W' hl hI hd hs hn hu hz ho9
                refine hold ?_
                obtain ⟨x0, x1, x2, x3, x4, x5, x6, x7, x8, rfl⟩ := lenlit9 hl; clear hl
                refine held ?_
                simp only [putAll, Act.put, List.setIfInBounds_toArray, List.set_cons_succ, List.set_cons_zero]
                go_wp2_with fail
                exact relyE_done _ rfl rfl (Ext.refl _) ⟨hI.1, fun h => hI.2 (updE_false h)⟩
              refine stepsF_cons ?_ ?_
              · intro listed vs W' hl hI hd hs hn hu hz ho9
                refine hold ?_
                obtain ⟨x0, x1, x2, x3, x4, x5, x6, x7, x8, rfl⟩ := lenlit9 hl; clear hl
                simp only [factsL, atL, refV, List.getElem?_cons_succ, List.getElem?_cons_zero, List.getD_cons_succ, List.getD_cons_zero, RelL.one, RelL.any, RelL.blk, RelL.law, RNi, RLi, RSm] at hd
                obtain ⟨rfl, rfl, -⟩ := hd
                refine held ?_
                simp only [putAll, Act.put, List.setIfInBounds_toArray, List.set_cons_succ, List.set_cons_zero]
                go_wp2_with fail
                exact relyE_done _ rfl rfl (Ext.refl _) ⟨hI.1, fun h => hI.2 (updE_false h)⟩
              refine stepsF_cons ?_ ?_
              · intro listed vs W' hl hI hd hs hn hu hz ho9
                refine hold ?_
                obtain ⟨x0, x1, x2, x3, x4, x5, x6, x7, x8, rfl⟩ := lenlit9 hl; clear hl
                simp only [factsL, atL, refV, List.getElem?_cons_succ, List.getElem?_cons_zero, List.getD_cons_succ, List.getD_cons_zero, RelL.one, RelL.any, RelL.blk, RelL.law, RNi, RLi, RSm] at hd
                obtain ⟨⟨g3, c3, rfl, h3⟩, -⟩ := hd
                refine held ?_
                simp only [putAll, Act.put, List.setIfInBounds_toArray, List.set_cons_succ, List.set_cons_zero]
                go_wp2_with fail
                exact relyE_done _ rfl rfl (Ext.refl _) ⟨hI.1, fun h => hI.2 (updE_false h)⟩
              refine stepsF_cons ?_ ?_
              · intro listed vs W' hl hI hd hs hn hu hz ho9
                refine hold ?_
                obtain ⟨x0, x1, x2, x3, x4, x5, x6, x7, x8, rfl⟩ := lenlit9 hl; clear hl
                simp only [factsL, atL, refV, List.getElem?_cons_succ, List.getElem?_cons_zero, List.getD_cons_succ, List.getD_cons_zero, RelL.one, RelL.any, RelL.blk, RelL.law, RNi, RLi, RSm] at hd
                obtain ⟨rfl, -⟩ := hd
                refine held ?_
                simp only [putAll, Act.put, List.setIfInBounds_toArray, List.set_cons_succ, List.set_cons_zero]
                go_wp2_with fail
                exact relyE_done _ rfl rfl (Ext.refl _) ⟨hI.1, fun h => hI.2 (updE_false h)⟩
              exact trivial
            · intro listed vs W' hl hall hI hd hn
              obtain ⟨x0, x1, x2, x3, x4, x5, x6, x7, x8, rfl⟩ := lenlit9 hl; clear hl
              simp only [List.length_cons, List.length_nil, List.range, List.range.loop, Nat.zero_add, Nat.reduceAdd, factsL, atL, refV, List.getElem?_cons_succ, List.getElem?_cons_zero, List.getD_cons_succ, List.getD_cons_zero, RelL.one, RelL.any, RelL.blk, RelL.law, RNi, RLi, RSm] at hd
              obtain ⟨rfl, rfl, -, ⟨g3, c3, rfl, h3⟩, rfl, rfl, rfl, rfl, rfl, -⟩ := hd
              simp only [putAll, Act.put, List.setIfInBounds_toArray, List.set_cons_succ, List.set_cons_zero]
              have hx := hI.1
              have hof2 : off 1 + wid 1 = 7 := rfl
              have HOF2 := Lib.hid hof2
              have hofn : off 2 = 8 := rfl
              have HOFN := Lib.hid hofn
              clear hof2 hofn hI hn hX2
              obtain ⟨RZ2, hRZ2⟩ : ∃ RZ2, l.length - 7 = RZ2 := ⟨_, rfl⟩
              have HXA := Lib.hid (show (mkS (l.drop 7)).size = RZ2 by rw [mkS_size, List.length_drop, hRZ2])
              have HXB := Lib.hid (show (mkS (l.drop 7)).extract 1 RZ2 = mkS (l.drop 8) by rw [mkS_extract, List.drop_drop, List.take_of_length_le (by rw [List.length_drop]; omega)])
              have HXT := Lib.hid (mkS_toList (l.drop 7))
              by_cases hne : 7 < l.length
              · have hemp : (mkS (l.drop 7)).toList.isEmpty = false := by
                  rw [HXT.out]
                  have : l.drop 7 ≠ [] := fun h => by have := congrArg List.length h; rw [List.length_drop] at this; simp at this; omega
                  cases h : l.drop 7 with
                  | nil => exact absurd h this
                  | cons a b => rfl
                have hix : ∀ W : World, (Instr.index 9 (.string (mkS (l.drop 7))) (.int .i64 0)).run Tryd.prog W = .ok (.int .u8 (nthB l 7)) W := fun W => by
                  have := index_mkS (l.drop 7) 0 (by rw [List.length_drop]; omega) 9 (by kernel_rfl) W
                  rw [nthB_drop] at this
                  exact this
                have q3 : (1 : Int) ≤ (RZ2 : Int) := by omega
                have HNE := Lib.hid hne
                have hXA := HXA.out
                have hXB := HXB.out
                clear hne hRZ2 HXA HXB HXT
                generalize mkS (l.drop 7) = R2 at *
                have HEM := Lib.hid hemp
                clear hemp
                by_cases hs : nthB l 7 = 45
                · have HS := Lib.hid hs
                  have HUP2 : Hid (okUp l 2 = true) := Lib.hid (by show (okUp l 1 && okG l 1) = true; rw [HUP.out]; unfold okG; rw [HOKW.out.1, decide_eq_true HOKW.out.2, HOF2.out, decide_eq_true HNE.out, decide_eq_true (show nthB l 7 = sgn 1 from HS.out)]; simp)
                  generalize nthB l 7 = XS at *
                  subst hs
                  go_upto_region 18 with fail
                  generalize W' = Wy at *
                  refine region_rely (S := Ext) (fun Wz => Ext Wy Wz) [some 60, some 61, some 62, some 63, some 64, some 65, some 66, some 67, some 68, some 69] [[], [0], [1], [2], [2, 3], [2], [2], [2, 5, 6], [2, 4, 7], [2, 8]] [[], [], [], [], [], [], [], [], [], []] [.one (.string R2), .one (.bool false), .one (.bool false), .one (.string R2), .one (.int .u8 45), .one (.string ⟨#[45, 45, 84, 58, 58, 46]⟩), .one (.int .i64 1), .one (.int .u8 45), .one (.bool false), .one (.bool false)] (by kernel_rfl) (by kernel_rfl) (Ext.refl Wy).drew ?_ ?_
                  · refine stepsR_cons ?_ ?_
                    · intro vs W' hl hI hd ho
                      refine hold ?_
                      obtain ⟨x0, x1, x2, x3, x4, x5, x6, x7, x8, x9, rfl⟩ := lenlit10 hl; clear hl
                      refine held ?_
                      simp only [putAll, Act.put, List.setIfInBounds_toArray, List.set_cons_succ, List.set_cons_zero]
                      go_wp2_with fail
                      exact rely_done _ rfl rfl (Ext.refl _) hI
                    refine stepsR_cons ?_ ?_
                    · intro vs W' hl hI hd ho
                      refine hold ?_
                      obtain ⟨x0, x1, x2, x3, x4, x5, x6, x7, x8, x9, rfl⟩ := lenlit10 hl; clear hl
                      simp only [factsR, atR, List.getElem?_cons_succ, List.getElem?_cons_zero, Rel.one, Rel.blk] at hd
                      obtain ⟨rfl, -⟩ := hd
                      refine held ?_
                      simp only [putAll, Act.put, List.setIfInBounds_toArray, List.set_cons_succ, List.set_cons_zero]
                      go_wp2_with fail
                      exact rely_done _ rfl (congrArg Value.bool HEM.out) (Ext.refl _) hI
                    refine stepsR_cons ?_ ?_
                    · intro vs W' hl hI hd ho
                      refine hold ?_
                      obtain ⟨x0, x1, x2, x3, x4, x5, x6, x7, x8, x9, rfl⟩ := lenlit10 hl; clear hl
                      simp only [factsR, atR, List.getElem?_cons_succ, List.getElem?_cons_zero, Rel.one, Rel.blk] at hd
                      obtain ⟨rfl, -⟩ := hd
                      refine held ?_
                      simp only [putAll, Act.put, List.setIfInBounds_toArray, List.set_cons_succ, List.set_cons_zero]
                      go_wp2_with fail
                      exact rely_done _ rfl rfl (Ext.refl _) hI
                    refine stepsR_cons ?_ ?_
                    · intro vs W' hl hI hd ho
                      refine hold ?_
                      obtain ⟨x0, x1, x2, x3, x4, x5, x6, x7, x8, x9, rfl⟩ := lenlit10 hl; clear hl
                      simp only [factsR, atR, List.getElem?_cons_succ, List.getElem?_cons_zero, Rel.one, Rel.blk] at hd
                      obtain ⟨rfl, -⟩ := hd
                      refine held ?_
                      simp only [putAll, Act.put, List.setIfInBounds_toArray, List.set_cons_succ, List.set_cons_zero]
                      go_wp2_with fail
                      exact rely_done _ rfl rfl (Ext.refl _) hI
                    refine stepsR_cons ?_ ?_
                    · intro vs W' hl hI hd ho
                      refine hold ?_
                      obtain ⟨x0, x1, x2, x3, x4, x5, x6, x7, x8, x9, rfl⟩ := lenlit10 hl; clear hl
                      simp only [factsR, atR, List.getElem?_cons_succ, List.getElem?_cons_zero, Rel.one, Rel.blk] at hd
                      obtain ⟨rfl, rfl, -⟩ := hd
                      refine held ?_
                      simp only [putAll, Act.put, List.setIfInBounds_toArray, List.set_cons_succ, List.set_cons_zero]
                      go_wp2_with fail
                      exact rely_done _ rfl rfl (Ext.refl _) hI
                    refine stepsR_cons ?_ ?_
                    · intro vs W' hl hI hd ho
                      refine hold ?_
                      obtain ⟨x0, x1, x2, x3, x4, x5, x6, x7, x8, x9, rfl⟩ := lenlit10 hl; clear hl
                      simp only [factsR, atR, List.getElem?_cons_succ, List.getElem?_cons_zero, Rel.one, Rel.blk] at hd
                      obtain ⟨rfl, -⟩ := hd
                      refine held ?_
                      simp only [putAll, Act.put, List.setIfInBounds_toArray, List.set_cons_succ, List.set_cons_zero]
                      go_wp2_with fail
                      exact rely_done _ rfl rfl (Ext.refl _) hI
                    refine stepsR_cons ?_ ?_
                    · intro vs W' hl hI hd ho
                      refine hold ?_
                      obtain ⟨x0, x1, x2, x3, x4, x5, x6, x7, x8, x9, rfl⟩ := lenlit10 hl; clear hl
                      simp only [factsR, atR, List.getElem?_cons_succ, List.getElem?_cons_zero, Rel.one, Rel.blk] at hd
                      obtain ⟨rfl, -⟩ := hd
                      refine held ?_
                      simp only [putAll, Act.put, List.setIfInBounds_toArray, List.set_cons_succ, List.set_cons_zero]
                      go_wp2_with fail
                      exact rely_done _ rfl rfl (Ext.refl _) hI
                    refine stepsR_cons ?_ ?_
                    · intro vs W' hl hI hd ho
                      refine hold ?_
                      obtain ⟨x0, x1, x2, x3, x4, x5, x6, x7, x8, x9, rfl⟩ := lenlit10 hl; clear hl
                      simp only [factsR, atR, List.getElem?_cons_succ, List.getElem?_cons_zero, Rel.one, Rel.blk] at hd
                      obtain ⟨rfl, rfl, rfl, -⟩ := hd
                      refine held ?_
                      simp only [putAll, Act.put, List.setIfInBounds_toArray, List.set_cons_succ, List.set_cons_zero]
                      go_wp2_with fail
                      exact rely_done _ rfl rfl (Ext.refl _) hI
                    refine stepsR_cons ?_ ?_
                    · intro vs W' hl hI hd ho
                      refine hold ?_
                      obtain ⟨x0, x1, x2, x3, x4, x5, x6, x7, x8, x9, rfl⟩ := lenlit10 hl; clear hl
                      simp only [factsR, atR, List.getElem?_cons_succ, List.getElem?_cons_zero, Rel.one, Rel.blk] at hd
                      obtain ⟨rfl, rfl, rfl, -⟩ := hd
                      refine held ?_
                      simp only [putAll, Act.put, List.setIfInBounds_toArray, List.set_cons_succ, List.set_cons_zero]
                      go_wp2_with fail
                      exact rely_done _ rfl rfl (Ext.refl _) hI
                    refine stepsR_cons ?_ ?_
                    · intro vs W' hl hI hd ho
                      refine hold ?_
                      obtain ⟨x0, x1, x2, x3, x4, x5, x6, x7, x8, x9, rfl⟩ := lenlit10 hl; clear hl
                      simp only [factsR, atR, List.getElem?_cons_succ, List.getElem?_cons_zero, Rel.one, Rel.blk] at hd
                      obtain ⟨rfl, rfl, -⟩ := hd
                      refine held ?_
                      simp only [putAll, Act.put, List.setIfInBounds_toArray, List.set_cons_succ, List.set_cons_zero]
                      go_wp2_with fail
                      exact rely_done _ rfl rfl (Ext.refl _) hI
                    exact trivial
                  · intro vs W' hl hI hd
                    obtain ⟨x0, x1, x2, x3, x4, x5, x6, x7, x8, x9, rfl⟩ := lenlit10 hl; clear hl
                    simp only [List.length_cons, List.length_nil, List.range, List.range.loop, Nat.zero_add, Nat.reduceAdd, factsR, atR, List.getElem?_cons_succ, List.getElem?_cons_zero, Rel.one, Rel.blk] at hd
                    obtain ⟨rfl, rfl, rfl, rfl, rfl, rfl, rfl, rfl, rfl, rfl, -⟩ := hd
                    simp only [putAll, Act.put, List.setIfInBounds_toArray, List.set_cons_succ, List.set_cons_zero]
                    replace hx := hx.trans hI
                    go_wp2_with fail
                    exact ⟨⟨2, _, c3, by omega, by simp, rfl, rfl, by rw [HPV.out]; exact h3.ext hI, HUP2.out, hx⟩, by simp only [intOf]; omega⟩
                · have hno : Hid (fmtB l = false) := Lib.hid (fmtB_no (k := 1) (by decide) (by unfold okG; rw [decide_eq_false (show ¬ 1 = 6 by decide), HOF2.out, decide_eq_false (show ¬ nthB l 7 = sgn 1 from hs)]; simp))
                  generalize nthB l 7 = XS at *
                  have HSN := Lib.hid hs
                  clear hs
                  go_upto_region 18 with fail
                  generalize W' = Wy at *
                  refine region_rely (S := Ext) (fun Wz => Ext Wy Wz) [some 60, some 61, some 62, some 63, some 64, some 65, some 66, some 67, some 68, some 69] [[], [0], [1], [2], [2, 3], [2], [2], [2, 5, 6], [2, 4, 7], [2, 8]] [[], [], [], [], [], [], [], [], [], []] [.one (.string R2), .one (.bool false), .one (.bool false), .one (.string R2), .one (.int .u8 XS), .one (.string ⟨#[45, 45, 84, 58, 58, 46]⟩), .one (.int .i64 1), .one (.int .u8 45), .one (.bool true), .one (.bool true)] (by kernel_rfl) (by kernel_rfl) (Ext.refl Wy).drew ?_ ?_
                  · refine stepsR_cons ?_ ?_
                    · intro vs W' hl hI hd ho
                      refine hold ?_
                      obtain ⟨x0, x1, x2, x3, x4, x5, x6, x7, x8, x9, rfl⟩ := lenlit10 hl; clear hl
                      refine held ?_
                      simp only [putAll, Act.put, List.setIfInBounds_toArray, List.set_cons_succ, List.set_cons_zero]
                      go_wp2_with fail
                      exact rely_done _ rfl rfl (Ext.refl _) hI
                    refine stepsR_cons ?_ ?_
                    · intro vs W' hl hI hd ho
                      refine hold ?_
                      obtain ⟨x0, x1, x2, x3, x4, x5, x6, x7, x8, x9, rfl⟩ := lenlit10 hl; clear hl
                      simp only [factsR, atR, List.getElem?_cons_succ, List.getElem?_cons_zero, Rel.one, Rel.blk] at hd
                      obtain ⟨rfl, -⟩ := hd
                      refine held ?_
                      simp only [putAll, Act.put, List.setIfInBounds_toArray, List.set_cons_succ, List.set_cons_zero]
                      go_wp2_with fail
                      exact rely_done _ rfl (congrArg Value.bool HEM.out) (Ext.refl _) hI
                    refine stepsR_cons ?_ ?_
                    · intro vs W' hl hI hd ho
                      refine hold ?_
                      obtain ⟨x0, x1, x2, x3, x4, x5, x6, x7, x8, x9, rfl⟩ := lenlit10 hl; clear hl
                      simp only [factsR, atR, List.getElem?_cons_succ, List.getElem?_cons_zero, Rel.one, Rel.blk] at hd
                      obtain ⟨rfl, -⟩ := hd
                      refine held ?_
                      simp only [putAll, Act.put, List.setIfInBounds_toArray, List.set_cons_succ, List.set_cons_zero]
                      go_wp2_with fail
                      exact rely_done _ rfl rfl (Ext.refl _) hI
                    refine stepsR_cons ?_ ?_
                    · intro vs W' hl hI hd ho
                      refine hold ?_
                      obtain ⟨x0, x1, x2, x3, x4, x5, x6, x7, x8, x9, rfl⟩ := lenlit10 hl; clear hl
                      simp only [factsR, atR, List.getElem?_cons_succ, List.getElem?_cons_zero, Rel.one, Rel.blk] at hd
                      obtain ⟨rfl, -⟩ := hd
                      refine held ?_
                      simp only [putAll, Act.put, List.setIfInBounds_toArray, List.set_cons_succ, List.set_cons_zero]
                      go_wp2_with fail
                      exact rely_done _ rfl rfl (Ext.refl _) hI
                    refine stepsR_cons ?_ ?_
                    · intro vs W' hl hI hd ho
                      refine hold ?_
                      obtain ⟨x0, x1, x2, x3, x4, x5, x6, x7, x8, x9, rfl⟩ := lenlit10 hl; clear hl
                      simp only [factsR, atR, List.getElem?_cons_succ, List.getElem?_cons_zero, Rel.one, Rel.blk] at hd
                      obtain ⟨rfl, rfl, -⟩ := hd
                      refine held ?_
                      simp only [putAll, Act.put, List.setIfInBounds_toArray, List.set_cons_succ, List.set_cons_zero]
                      go_wp2_with fail
                      exact rely_done _ rfl rfl (Ext.refl _) hI
                    refine stepsR_cons ?_ ?_
                    · intro vs W' hl hI hd ho
                      refine hold ?_
                      obtain ⟨x0, x1, x2, x3, x4, x5, x6, x7, x8, x9, rfl⟩ := lenlit10 hl; clear hl
                      simp only [factsR, atR, List.getElem?_cons_succ, List.getElem?_cons_zero, Rel.one, Rel.blk] at hd
                      obtain ⟨rfl, -⟩ := hd
                      refine held ?_
                      simp only [putAll, Act.put, List.setIfInBounds_toArray, List.set_cons_succ, List.set_cons_zero]
                      go_wp2_with fail
                      exact rely_done _ rfl rfl (Ext.refl _) hI
                    refine stepsR_cons ?_ ?_
                    · intro vs W' hl hI hd ho
                      refine hold ?_
                      obtain ⟨x0, x1, x2, x3, x4, x5, x6, x7, x8, x9, rfl⟩ := lenlit10 hl; clear hl
                      simp only [factsR, atR, List.getElem?_cons_succ, List.getElem?_cons_zero, Rel.one, Rel.blk] at hd
                      obtain ⟨rfl, -⟩ := hd
                      refine held ?_
                      simp only [putAll, Act.put, List.setIfInBounds_toArray, List.set_cons_succ, List.set_cons_zero]
                      go_wp2_with fail
                      exact rely_done _ rfl rfl (Ext.refl _) hI
                    refine stepsR_cons ?_ ?_
                    · intro vs W' hl hI hd ho
                      refine hold ?_
                      obtain ⟨x0, x1, x2, x3, x4, x5, x6, x7, x8, x9, rfl⟩ := lenlit10 hl; clear hl
                      simp only [factsR, atR, List.getElem?_cons_succ, List.getElem?_cons_zero, Rel.one, Rel.blk] at hd
                      obtain ⟨rfl, rfl, rfl, -⟩ := hd
                      refine held ?_
                      simp only [putAll, Act.put, List.setIfInBounds_toArray, List.set_cons_succ, List.set_cons_zero]
                      go_wp2_with fail
                      exact rely_done _ rfl rfl (Ext.refl _) hI
                    refine stepsR_cons ?_ ?_
                    · intro vs W' hl hI hd ho
                      refine hold ?_
                      obtain ⟨x0, x1, x2, x3, x4, x5, x6, x7, x8, x9, rfl⟩ := lenlit10 hl; clear hl
                      simp only [factsR, atR, List.getElem?_cons_succ, List.getElem?_cons_zero, Rel.one, Rel.blk] at hd
                      obtain ⟨rfl, rfl, rfl, -⟩ := hd
                      refine held ?_
                      simp only [putAll, Act.put, List.setIfInBounds_toArray, List.set_cons_succ, List.set_cons_zero]
                      go_wp2_with fail
                      exact rely_done _ rfl (congrArg Value.bool (bne_iff_ne.2 HSN.out)) (Ext.refl _) hI
                    refine stepsR_cons ?_ ?_
                    · intro vs W' hl hI hd ho
                      refine hold ?_
                      obtain ⟨x0, x1, x2, x3, x4, x5, x6, x7, x8, x9, rfl⟩ := lenlit10 hl; clear hl
                      simp only [factsR, atR, List.getElem?_cons_succ, List.getElem?_cons_zero, Rel.one, Rel.blk] at hd
                      obtain ⟨rfl, rfl, -⟩ := hd
                      refine held ?_
                      simp only [putAll, Act.put, List.setIfInBounds_toArray, List.set_cons_succ, List.set_cons_zero]
                      go_wp2_with fail
                      exact rely_done _ rfl rfl (Ext.refl _) hI
                    exact trivial
                  · intro vs W' hl hI hd
                    obtain ⟨x0, x1, x2, x3, x4, x5, x6, x7, x8, x9, rfl⟩ := lenlit10 hl; clear hl
                    simp only [List.length_cons, List.length_nil, List.range, List.range.loop, Nat.zero_add, Nat.reduceAdd, factsR, atR, List.getElem?_cons_succ, List.getElem?_cons_zero, Rel.one, Rel.blk] at hd
                    obtain ⟨rfl, rfl, rfl, rfl, rfl, rfl, rfl, rfl, rfl, rfl, -⟩ := hd
                    simp only [putAll, Act.put, List.setIfInBounds_toArray, List.set_cons_succ, List.set_cons_zero]
                    replace hx := hx.trans hI
                    go_wp2_with fail
                    (try rw [Exit.noGoto_ret])
                    go_ret2
                    exact ⟨none, 0, 0, false, rfl, hx, hno.out.symm, fun h => by cases h⟩
              · have hno : Hid (fmtB l = false) := Lib.hid (fmtB_no (k := 1) (by decide) (by unfold okG; rw [decide_eq_false (show ¬ 1 = 6 by decide), HOF2.out, decide_eq_false hne]; simp))
                have hemp : (mkS (l.drop 7)).toList.isEmpty = true := by
                  rw [HXT.out, List.drop_of_length_le (by omega)]; rfl
                clear hRZ2 HXA HXB HXT
                generalize mkS (l.drop 7) = R2 at *
                have HEM := Lib.hid hemp
                clear hemp
                go_upto_region 18 with fail
                generalize W' = Wy at *
                refine region_rely (S := Ext) (fun Wz => Ext Wy Wz) [some 60, some 61, some 62, some 63, some 64, some 65, some 66, some 67, some 68, some 69] [[], [0], [1], [2], [2, 3], [2], [2], [2, 5, 6], [2, 4, 7], [2, 8]] [[], [], [], [], [], [], [], [], [], []] [.one (.string R2), .one (.bool true), .one (.bool true), .one (undef), .one (undef), .one (undef), .one (undef), .one (undef), .one (undef), .one (.bool true)] (by kernel_rfl) (by kernel_rfl) (Ext.refl Wy).drew ?_ ?_
                · refine stepsR_cons ?_ ?_
                  · intro vs W' hl hI hd ho
                    refine hold ?_
                    obtain ⟨x0, x1, x2, x3, x4, x5, x6, x7, x8, x9, rfl⟩ := lenlit10 hl; clear hl
                    refine held ?_
                    simp only [putAll, Act.put, List.setIfInBounds_toArray, List.set_cons_succ, List.set_cons_zero]
                    go_wp2_with fail
                    exact rely_done _ rfl rfl (Ext.refl _) hI
                  refine stepsR_cons ?_ ?_
                  · intro vs W' hl hI hd ho
                    refine hold ?_
                    obtain ⟨x0, x1, x2, x3, x4, x5, x6, x7, x8, x9, rfl⟩ := lenlit10 hl; clear hl
                    simp only [factsR, atR, List.getElem?_cons_succ, List.getElem?_cons_zero, Rel.one, Rel.blk] at hd
                    obtain ⟨rfl, -⟩ := hd
                    refine held ?_
                    simp only [putAll, Act.put, List.setIfInBounds_toArray, List.set_cons_succ, List.set_cons_zero]
                    go_wp2_with fail
                    exact rely_done _ rfl (congrArg Value.bool HEM.out) (Ext.refl _) hI
                  refine stepsR_cons ?_ ?_
                  · intro vs W' hl hI hd ho
                    refine hold ?_
                    obtain ⟨x0, x1, x2, x3, x4, x5, x6, x7, x8, x9, rfl⟩ := lenlit10 hl; clear hl
                    simp only [factsR, atR, List.getElem?_cons_succ, List.getElem?_cons_zero, Rel.one, Rel.blk] at hd
                    obtain ⟨rfl, -⟩ := hd
                    refine held ?_
                    simp only [putAll, Act.put, List.setIfInBounds_toArray, List.set_cons_succ, List.set_cons_zero]
                    go_wp2_with fail
                    exact rely_done _ rfl rfl (Ext.refl _) hI
                  refine stepsR_cons ?_ ?_
                  · intro vs W' hl hI hd ho
                    refine hold ?_
                    obtain ⟨x0, x1, x2, x3, x4, x5, x6, x7, x8, x9, rfl⟩ := lenlit10 hl; clear hl
                    simp only [factsR, atR, List.getElem?_cons_succ, List.getElem?_cons_zero, Rel.one, Rel.blk] at hd
                    obtain ⟨rfl, -⟩ := hd
                    refine held ?_
                    simp only [putAll, Act.put, List.setIfInBounds_toArray, List.set_cons_succ, List.set_cons_zero]
                    skip
                    exact rely_undef (by rfl) rfl rfl (Ext.refl _) hI
                  refine stepsR_cons ?_ ?_
                  · intro vs W' hl hI hd ho
                    refine hold ?_
                    obtain ⟨x0, x1, x2, x3, x4, x5, x6, x7, x8, x9, rfl⟩ := lenlit10 hl; clear hl
                    simp only [factsR, atR, List.getElem?_cons_succ, List.getElem?_cons_zero, Rel.one, Rel.blk] at hd
                    obtain ⟨rfl, rfl, -⟩ := hd
                    refine held ?_
                    simp only [putAll, Act.put, List.setIfInBounds_toArray, List.set_cons_succ, List.set_cons_zero]
                    skip
                    exact rely_undef (by rfl) rfl rfl (Ext.refl _) hI
                  refine stepsR_cons ?_ ?_
                  · intro vs W' hl hI hd ho
                    refine hold ?_
                    obtain ⟨x0, x1, x2, x3, x4, x5, x6, x7, x8, x9, rfl⟩ := lenlit10 hl; clear hl
                    simp only [factsR, atR, List.getElem?_cons_succ, List.getElem?_cons_zero, Rel.one, Rel.blk] at hd
                    obtain ⟨rfl, -⟩ := hd
                    refine held ?_
                    simp only [putAll, Act.put, List.setIfInBounds_toArray, List.set_cons_succ, List.set_cons_zero]
                    skip
                    exact rely_undef (by rfl) rfl rfl (Ext.refl _) hI
                  refine stepsR_cons ?_ ?_
                  · intro vs W' hl hI hd ho
                    refine hold ?_
                    obtain ⟨x0, x1, x2, x3, x4, x5, x6, x7, x8, x9, rfl⟩ := lenlit10 hl; clear hl
                    simp only [factsR, atR, List.getElem?_cons_succ, List.getElem?_cons_zero, Rel.one, Rel.blk] at hd
                    obtain ⟨rfl, -⟩ := hd
                    refine held ?_
                    simp only [putAll, Act.put, List.setIfInBounds_toArray, List.set_cons_succ, List.set_cons_zero]
                    skip
                    exact rely_undef (by rfl) rfl rfl (Ext.refl _) hI
                  refine stepsR_cons ?_ ?_
                  · intro vs W' hl hI hd ho
                    refine hold ?_
                    obtain ⟨x0, x1, x2, x3, x4, x5, x6, x7, x8, x9, rfl⟩ := lenlit10 hl; clear hl
                    simp only [factsR, atR, List.getElem?_cons_succ, List.getElem?_cons_zero, Rel.one, Rel.blk] at hd
                    obtain ⟨rfl, rfl, rfl, -⟩ := hd
                    refine held ?_
                    simp only [putAll, Act.put, List.setIfInBounds_toArray, List.set_cons_succ, List.set_cons_zero]
                    skip
                    exact rely_undef (by rfl) rfl rfl (Ext.refl _) hI
                  refine stepsR_cons ?_ ?_
                  · intro vs W' hl hI hd ho
                    refine hold ?_
                    obtain ⟨x0, x1, x2, x3, x4, x5, x6, x7, x8, x9, rfl⟩ := lenlit10 hl; clear hl
                    simp only [factsR, atR, List.getElem?_cons_succ, List.getElem?_cons_zero, Rel.one, Rel.blk] at hd
                    obtain ⟨rfl, rfl, rfl, -⟩ := hd
                    refine held ?_
                    simp only [putAll, Act.put, List.setIfInBounds_toArray, List.set_cons_succ, List.set_cons_zero]
                    skip
                    exact rely_undef (by rfl) rfl rfl (Ext.refl _) hI
                  refine stepsR_cons ?_ ?_
                  · intro vs W' hl hI hd ho
                    refine hold ?_
                    obtain ⟨x0, x1, x2, x3, x4, x5, x6, x7, x8, x9, rfl⟩ := lenlit10 hl; clear hl
                    simp only [factsR, atR, List.getElem?_cons_succ, List.getElem?_cons_zero, Rel.one, Rel.blk] at hd
                    obtain ⟨rfl, rfl, -⟩ := hd
                    refine held ?_
                    simp only [putAll, Act.put, List.setIfInBounds_toArray, List.set_cons_succ, List.set_cons_zero]
                    go_wp2_with fail
                    exact rely_done _ rfl rfl (Ext.refl _) hI
                  exact trivial
                · intro vs W' hl hI hd
                  obtain ⟨x0, x1, x2, x3, x4, x5, x6, x7, x8, x9, rfl⟩ := lenlit10 hl; clear hl
                  simp only [List.length_cons, List.length_nil, List.range, List.range.loop, Nat.zero_add, Nat.reduceAdd, factsR, atR, List.getElem?_cons_succ, List.getElem?_cons_zero, Rel.one, Rel.blk] at hd
                  obtain ⟨rfl, rfl, rfl, rfl, rfl, rfl, rfl, rfl, rfl, rfl, -⟩ := hd
                  simp only [putAll, Act.put, List.setIfInBounds_toArray, List.set_cons_succ, List.set_cons_zero]
                  replace hx := hx.trans hI
                  go_wp2_with fail
                  (try rw [Exit.noGoto_ret])
                  go_ret2
                  exact ⟨none, 0, 0, false, rfl, hx, hno.out.symm, fun h => by cases h⟩
      · have hno : Hid (fmtB l = false) := Lib.hid (fmtB_no (k := 1) (by decide) (by unfold okG; rw [HOF.out]; rw [decide_eq_false (by rw [HWD.out]; exact hlen)]; rfl))
        have q1 : (RZ : Int) < 2 := by omega
        generalize mkS (l.drop 5) = R at *
        clear hX1 hX2 hR0
        go_wp2_with fail
        (try rw [Exit.noGoto_ret])
        go_ret2
        exact ⟨none, 0, 0, false, rfl, hx, hno.out.symm, fun h => by cases h⟩
    · have p := hdr.c 2 _ rfl
      have hof : off 2 = 8 := rfl
      have HOF := Lib.hid hof
      have hwd : wid 2 = 2 := rfl
      have HWD := Lib.hid hwd
      rw [hof]
      obtain ⟨RZ, hRZ⟩ : ∃ RZ, l.length - 8 = RZ := ⟨_, rfl⟩
      have hRz : (mkS (l.drop 8)).size = RZ := by rw [mkS_size, List.length_drop, hRZ]
      have hX1 : (mkS (l.drop 8)).extract 0 2 = mkS ((l.drop 8).take 2) := by rw [mkS_extract]; simp
      have hX2 : (mkS (l.drop 8)).extract 2 RZ = mkS (l.drop 10) := by
        rw [mkS_extract, List.drop_drop, List.take_of_length_le (by rw [List.length_drop]; omega)]
      by_cases hlen : 8 + 2 ≤ l.length
      · have q1 : (2 : Int) ≤ (RZ : Int) := by omega
        have q2 : ¬ ((RZ : Int) < 2) := by omega
        have hGs : (mkS ((l.drop 8).take 2)).size = 2 := by rw [mkS_size, List.length_take, List.length_drop]; omega
        have hcv := run_bytes_of_string (P := Tryd.prog) wr 9 66 5 (mkS ((l.drop 8).take 2)) (by kernel_rfl) (by kernel_rfl) (by kernel_rfl)
        rw [hGs] at hcv
        have hbc : ∀ j, j < 2 → (wr.drew.alloc (.cells (bytesRow (mkS ((l.drop 8).take 2)) (grownCap wr 2 0 5)) 5 ((bytesRow (mkS ((l.drop 8).take 2)) (grownCap wr 2 0 5)).size, (bytesRow (mkS ((l.drop 8).take 2)) (grownCap wr 2 0 5)).size + 1))).cell? ⟨wr.heap.size, j, none⟩ = some (.int .u8 (nthB l (8 + j))) := fun j hj => by
          rw [← nthB_drop l 8 j, ← nthB_take (l.drop 8) 2 j hj]
          exact bytes_cell wr.drew _ _ _ _ j (by rw [List.length_take, List.length_drop]; omega)
        have hEc : Ext wr (wr.drew.alloc (.cells (bytesRow (mkS ((l.drop 8).take 2)) (grownCap wr 2 0 5)) 5 ((bytesRow (mkS ((l.drop 8).take 2)) (grownCap wr 2 0 5)).size, (bytesRow (mkS ((l.drop 8).take 2)) (grownCap wr 2 0 5)).size + 1))) := (Ext.refl wr).drew.alloc _
        generalize wr.drew.alloc (.cells (bytesRow (mkS ((l.drop 8).take 2)) (grownCap wr 2 0 5)) 5 ((bytesRow (mkS ((l.drop 8).take 2)) (grownCap wr 2 0 5)).size, (bytesRow (mkS ((l.drop 8).take 2)) (grownCap wr 2 0 5)).size + 1)) = W1 at *
        generalize grownCap wr 2 0 5 = CP at *
        generalize hGG : mkS ((l.drop 8).take 2) = GG at *
        clear hGG
        have HBC := Lib.hid hbc
        have HLEN := Lib.hid hlen
        have HX2 := Lib.hid hX2
        have HRZ := Lib.hid hRZ
        have hbl : wr.heap.size = wr.heap.size := rfl
        obtain ⟨bb, hbb⟩ : ∃ bb, wr.heap.size = bb := ⟨_, rfl⟩
        rw [hbb] at hcv HBC
        clear hbc hlen hX2 hR0 hbl hbb
        generalize mkS (l.drop 8) = R at *
        go_wp2_with fail
        go_loopw [12, 32] (fun nn j wq => ∃ (i : Nat), i ≤ 2 ∧ j = .int .i64 (i : Int) ∧ nn = .int .i64 (numB l 8 i) ∧ allB l 8 i = true ∧ Ext W1 wq) (fun _ j _ => 2 - (intOf j).toNat)
        case atStart => exact ⟨0, by omega, rfl, rfl, rfl, Ext.refl _⟩
        case round =>
          obtain ⟨i, hi, rfl, rfl, hal, hy⟩ := hrel
          have hEq := hEc.trans hy
          have HAL := Lib.hid hal
          have hnb := numB_bd hal
          have hpow : (10 : Int) ^ i ≤ 1000000 := by
            have := Nat.pow_le_pow_right (show 0 < 10 by decide) (show i ≤ 6 by omega)
            have h2 : ((10 ^ i : Nat) : Int) ≤ ((10 ^ 6 : Nat) : Int) := by exact_mod_cast this
            simpa using h2
          have hnb2 : 0 ≤ numB l 8 i ∧ numB l 8 i < 1000000 := by omega
          clear hal hnb hpow
          by_cases hlt2 : i < 2
          · have c8 := hy.cell (HBC.out i hlt2)
            have HNS : Hid (numB l 8 (i + 1) = 10 * numB l 8 i + (nthB l (8 + i) - 48)) := Lib.hid rfl
            have hbb2 := nthB_bd l (8 + i)
            have HAS : Hid (digB (nthB l (8 + i)) = true → allB l 8 (i + 1) = true) := Lib.hid (fun h => by simp only [allB]; rw [HAL.out, h]; rfl)
            have HAN : Hid (digB (nthB l (8 + i)) = false → allB l 8 2 = false) := Lib.hid (fun h => allB_not hlt2 h)
            generalize numB l 8 i = NN at *
            generalize nthB l (8 + i) = XB at *
            by_cases hd1 : 48 ≤ XB
            · by_cases hd2 : XB ≤ 57
              · have hd1' : ¬ XB < 48 := by omega
                have hd2' : ¬ 57 < XB := by omega
                have HDG := Lib.hid (HAS.out (digB_iff.2 ⟨hd1, hd2⟩))
                go_wp2_with fail
                exact ⟨⟨i + 1, by omega, by go_num, by rw [HNS.out], HDG.out, hy⟩, by simp only [intOf]; omega⟩
              · have hd2' : 57 < XB := by omega
                have hd1' : ¬ XB < 48 := by omega
                have hf := HAN.out (by rw [Bool.eq_false_iff]; exact fun h => hd2 (digB_iff.1 h).2)
                have hno : Hid (fmtB l = false) := Lib.hid (fmtB_no (k := 2) (by decide) (by unfold okG; rw [HOF.out]; rw [HWD.out, hf]; simp))
                clear hf
                go_wp2_with fail
                (try rw [Exit.noGoto_ret])
                go_ret2
                exact ⟨none, 0, 0, false, rfl, hx.trans hEq, hno.out.symm, fun h => by cases h⟩
            · have hd1' : XB < 48 := by omega
              have hf := HAN.out (by rw [Bool.eq_false_iff]; exact fun h => hd1 (digB_iff.1 h).1)
              have hno : Hid (fmtB l = false) := Lib.hid (fmtB_no (k := 2) (by decide) (by unfold okG; rw [HOF.out]; rw [HWD.out, hf]; simp))
              clear hf
              go_wp2_with fail
              (try rw [Exit.noGoto_ret])
              go_ret2
              exact ⟨none, 0, 0, false, rfl, hx.trans hEq, hno.out.symm, fun h => by cases h⟩
          · obtain rfl : i = 2 := by omega
            have hNV : valB l 2 = numB l 8 2 := rfl
            have hPV : valsB l 3 = valsB l 2 ++ [valB l 2] := rfl
            rw [hNV] at hPV
            have HPV := Lib.hid hPV
            clear hNV hPV
            have ho2 := ho.ext hEq
            have hxq := hx.trans hEq
            generalize numB l 8 2 = NV at *
            generalize valsB l 2 = PV at *
            have hwNV : (Lit.int .i64 NV).wf = true := wfi (by omega) (by omega)
            have hX2 := HX2.out
            go_upto_region 16 with fail
            have hEz := hxq
            have HOKW : Hid (allB l (off 2) (wid 2) = true ∧ off 2 + wid 2 ≤ l.length) := Lib.hid ⟨HAL.out, HLEN.out⟩
            clear hxq hEq hy hEc hx hcv HBC HAL hdr p q2
            have hoZ := ho2
            have hB0 := hEz.sz
            clear ho2 ho
            generalize wr = Vz at *
            refine region_relyF (fun listed W' => Ext w W' ∧ (listed 3 = false → Ext Vz W')) [some 49, some 50, some 51, some 52, some 53, some 54, some 55, some 8, some 9] [[], [], [1], [0, 1, 2], [], [], [4, 5], [0, 1, 2, 3], [0, 1, 2, 3, 4, 5, 6, 7]] [[], [], [1], [0, 2], [], [], [4, 5], [3], [6]] [none, none, none, none, none, none, none, some 3, none] [false, false, false, false, false, false, false, false, false] [.one (.slice aa 2 cc), .one (.int .i64 NV), RLi Vz.heap.size #[.int .i64 NV], RNi w.heap.size 3 (PV ++ [NV]), .one (.string R), .one (.int .i64 2), .one (.string (mkS (l.drop 10))), RSm 3, .one (.string (mkS (l.drop 10)))] (by kernel_rfl) (by kernel_rfl) rfl ⟨hEz.drew, fun _ => (Ext.refl Vz).drew⟩ ?_ ?_
            · refine stepsF_cons ?_ ?_
              · intro listed vs W' hl hI hd hs hn hu hz ho9
                refine hold ?_
                obtain ⟨x0, x1, x2, x3, x4, x5, x6, x7, x8, rfl⟩ := lenlit9 hl; clear hl
                refine held ?_
                simp only [putAll, Act.put, List.setIfInBounds_toArray, List.set_cons_succ, List.set_cons_zero]
                have h7z : listed 7 = false := by cases h : listed 7 with | false => rfl | true => exact absurd (by decide) (hu 7 h)
                obtain rfl : x7 = .slice aa 2 cc := ho9 7 (some 8) x7 h7z rfl rfl
                go_wp2_with fail
                exact relyE_done _ rfl rfl (Ext.refl _) ⟨hI.1, fun h => hI.2 (updE_false h)⟩
              refine stepsF_cons ?_ ?_
              · intro listed vs W' hl hI hd hs hn hu hz ho9
                refine hold ?_
                obtain ⟨x0, x1, x2, x3, x4, x5, x6, x7, x8, rfl⟩ := lenlit9 hl; clear hl
                refine held ?_
                simp only [putAll, Act.put, List.setIfInBounds_toArray, List.set_cons_succ, List.set_cons_zero]
                go_wp2_with fail
                exact relyE_done _ rfl rfl (Ext.refl _) ⟨hI.1, fun h => hI.2 (updE_false h)⟩
              refine stepsF_cons ?_ ?_
              · intro listed vs W' hl hI hd hs hn hu hz ho9
                refine hold ?_
                obtain ⟨x0, x1, x2, x3, x4, x5, x6, x7, x8, rfl⟩ := lenlit9 hl; clear hl
                simp only [factsL, atL, refV, List.getElem?_cons_succ, List.getElem?_cons_zero, List.getD_cons_succ, List.getD_cons_zero, RelL.one, RelL.any, RelL.blk, RelL.law, RNi, RLi, RSm] at hd
                obtain ⟨rfl, -⟩ := hd
                refine held ?_
                simp only [putAll, Act.put, List.setIfInBounds_toArray, List.set_cons_succ, List.set_cons_zero]
                go_wp2_with fail
                have h3z : listed 3 = false := by cases h : listed 3 with | false => rfl | true => exact absurd (by decide) (hu 3 h)
                exact relyE_done _ rfl ⟨_, rfl, (hI.2 h3z).sz, World.alloc_heap_new _ _⟩ ((Ext.refl _).alloc _) ⟨hI.1.alloc _, fun h => (hI.2 (updE_false h)).alloc _⟩
              refine stepsF_cons ?_ ?_
              · intro listed vs W' hl hI hd hs hn hu hz ho9
                refine hold ?_
                obtain ⟨x0, x1, x2, x3, x4, x5, x6, x7, x8, rfl⟩ := lenlit9 hl; clear hl
                simp only [factsL, atL, refV, List.getElem?_cons_succ, List.getElem?_cons_zero, List.getD_cons_succ, List.getD_cons_zero, RelL.one, RelL.any, RelL.blk, RelL.law, RNi, RLi, RSm] at hd
                obtain ⟨rfl, ⟨b2, rfl, hb2, hB2⟩, -⟩ := hd
                refine held ?_
                simp only [putAll, Act.put, List.setIfInBounds_toArray, List.set_cons_succ, List.set_cons_zero]
                have hz2 := hI.2 hz
                have hbz : w.heap.size ≤ W'.heap.size := by have := hz2.sz; have := hB0; omega
                have ho2 := hoZ.ext hz2
                have hlit : Sl .i64 W' (some ⟨b2, 0, none⟩) 1 1 [NV] := lit_of_block (E := 3) hB2 hwNV
                go_wp2_with (at_builtin; refine appSg el_i64 rfl _ _ rfl _ w.heap.size _ _ _ _ rfl ho2 _ _ _ _ rfl hlit (by omega) hbz (by unfold maxLen; omega) (by omega) ?_; intro g3 c3 w3 hop hB hg; refine hold ?_)
                refine held ?_
                exact wpList_nil (relyE_store _ rfl ⟨_, _, rfl, hop⟩ hB.size ⟨fun _ _ h => h, fun _ _ h => h, fun _ _ ⟨b, e1, e2, e3⟩ => ⟨b, e1, e2, (hg.block b (Array.getElem?_eq_some_iff.1 e3).1 (fun e => Nat.lt_irrefl _ (Nat.lt_of_lt_of_le (World.ownsRow.lt hoZ b e.symm).2 e2))).trans e3⟩, fun _ hk _ => absurd rfl hk, fun _ _ h => h, fun _ _ h => h, fun _ _ h => h, fun _ _ h => h, fun _ _ h => h, trivial⟩ ⟨Below.trans hI.1 hB, fun h => by simp [updE] at h⟩)
              refine stepsF_cons ?_ ?_
              · intro listed vs W' hl hI hd hs hn hu hz ho9
                refine hold ?_
                obtain ⟨x0, x1, x2, x3, x4, x5, x6, x7, x8, rfl⟩ := lenlit9 hl; clear hl
                refine held ?_
                simp only [putAll, Act.put, List.setIfInBounds_toArray, List.set_cons_succ, List.set_cons_zero]
                have h7z : listed 8 = false := by cases h : listed 8 with | false => rfl | true => exact absurd (by decide) (hu 8 h)
                obtain rfl : x8 = .string R := ho9 8 (some 9) x8 h7z rfl rfl
                go_wp2_with fail
                exact relyE_done _ rfl rfl (Ext.refl _) ⟨hI.1, fun h => hI.2 (updE_false h)⟩
              refine stepsF_cons ?_ ?_
              · intro listed vs W' hl hI hd hs hn hu hz ho9
                refine hold ?_
                obtain ⟨x0, x1, x2, x3, x4, x5, x6, x7, x8, rfl⟩ := lenlit9 hl; clear hl
                refine held ?_
                simp only [putAll, Act.put, List.setIfInBounds_toArray, List.set_cons_succ, List.set_cons_zero]
                go_wp2_with fail
                exact relyE_done _ rfl rfl (Ext.refl _) ⟨hI.1, fun h => hI.2 (updE_false h)⟩
              refine stepsF_cons ?_ ?_
              · intro listed vs W' hl hI hd hs hn hu hz ho9
                refine hold ?_
                obtain ⟨x0, x1, x2, x3, x4, x5, x6, x7, x8, rfl⟩ := lenlit9 hl; clear hl
                simp only [factsL, atL, refV, List.getElem?_cons_succ, List.getElem?_cons_zero, List.getD_cons_succ, List.getD_cons_zero, RelL.one, RelL.any, RelL.blk, RelL.law, RNi, RLi, RSm] at hd
                obtain ⟨rfl, rfl, -⟩ := hd
                refine held ?_
                simp only [putAll, Act.put, List.setIfInBounds_toArray, List.set_cons_succ, List.set_cons_zero]
                go_wp2_with fail
                exact relyE_done _ rfl rfl (Ext.refl _) ⟨hI.1, fun h => hI.2 (updE_false h)⟩
              refine stepsF_cons ?_ ?_
              · intro listed vs W' hl hI hd hs hn hu hz ho9
                refine hold ?_
                obtain ⟨x0, x1, x2, x3, x4, x5, x6, x7, x8, rfl⟩ := lenlit9 hl; clear hl
                simp only [factsL, atL, refV, List.getElem?_cons_succ, List.getElem?_cons_zero, List.getD_cons_succ, List.getD_cons_zero, RelL.one, RelL.any, RelL.blk, RelL.law, RNi, RLi, RSm] at hd
                obtain ⟨⟨g3, c3, rfl, h3⟩, -⟩ := hd
                refine held ?_
                simp only [putAll, Act.put, List.setIfInBounds_toArray, List.set_cons_succ, List.set_cons_zero]
                go_wp2_with fail
                exact relyE_done _ rfl rfl (Ext.refl _) ⟨hI.1, fun h => hI.2 (updE_false h)⟩
              refine stepsF_cons ?_ ?_
              · intro listed vs W' hl hI hd hs hn hu hz ho9
                refine hold ?_
                obtain ⟨x0, x1, x2, x3, x4, x5, x6, x7, x8, rfl⟩ := lenlit9 hl; clear hl
                simp only [factsL, atL, refV, List.getElem?_cons_succ, List.getElem?_cons_zero, List.getD_cons_succ, List.getD_cons_zero, RelL.one, RelL.any, RelL.blk, RelL.law, RNi, RLi, RSm] at hd
                obtain ⟨rfl, -⟩ := hd
                refine held ?_
                simp only [putAll, Act.put, List.setIfInBounds_toArray, List.set_cons_succ, List.set_cons_zero]
                go_wp2_with fail
                exact relyE_done _ rfl rfl (Ext.refl _) ⟨hI.1, fun h => hI.2 (updE_false h)⟩
              exact trivial
            · intro listed vs W' hl hall hI hd hn
              obtain ⟨x0, x1, x2, x3, x4, x5, x6, x7, x8, rfl⟩ := lenlit9 hl; clear hl
              simp only [List.length_cons, List.length_nil, List.range, List.range.loop, Nat.zero_add, Nat.reduceAdd, factsL, atL, refV, List.getElem?_cons_succ, List.getElem?_cons_zero, List.getD_cons_succ, List.getD_cons_zero, RelL.one, RelL.any, RelL.blk, RelL.law, RNi, RLi, RSm] at hd
              obtain ⟨rfl, rfl, -, ⟨g3, c3, rfl, h3⟩, rfl, rfl, rfl, rfl, rfl, -⟩ := hd
              simp only [putAll, Act.put, List.setIfInBounds_toArray, List.set_cons_succ, List.set_cons_zero]
              have hx := hI.1
              have hof2 : off 2 + wid 2 = 10 := rfl
              have HOF2 := Lib.hid hof2
              have hofn : off 3 = 11 := rfl
              have HOFN := Lib.hid hofn
              clear hof2 hofn hI hn hX2
              obtain ⟨RZ2, hRZ2⟩ : ∃ RZ2, l.length - 10 = RZ2 := ⟨_, rfl⟩
              have HXA := Lib.hid (show (mkS (l.drop 10)).size = RZ2 by rw [mkS_size, List.length_drop, hRZ2])
              have HXB := Lib.hid (show (mkS (l.drop 10)).extract 1 RZ2 = mkS (l.drop 11) by rw [mkS_extract, List.drop_drop, List.take_of_length_le (by rw [List.length_drop]; omega)])
              have HXT := Lib.hid (mkS_toList (l.drop 10))
              by_cases hne : 10 < l.length
              · have hemp : (mkS (l.drop 10)).toList.isEmpty = false := by
                  rw [HXT.out]
                  have : l.drop 10 ≠ [] := fun h => by have := congrArg List.length h; rw [List.length_drop] at this; simp at this; omega
                  cases h : l.drop 10 with
                  | nil => exact absurd h this
                  | cons a b => rfl
                have hix : ∀ W : World, (Instr.index 9 (.string (mkS (l.drop 10))) (.int .i64 0)).run Tryd.prog W = .ok (.int .u8 (nthB l 10)) W := fun W => by
                  have := index_mkS (l.drop 10) 0 (by rw [List.length_drop]; omega) 9 (by kernel_rfl) W
                  rw [nthB_drop] at this
                  exact this
                have q3 : (1 : Int) ≤ (RZ2 : Int) := by omega
                have HNE := Lib.hid hne
                have hXA := HXA.out
                have hXB := HXB.out
                clear hne hRZ2 HXA HXB HXT
                generalize mkS (l.drop 10) = R2 at *
                have HEM := Lib.hid hemp
                clear hemp
                by_cases hs : nthB l 10 = 84
                · have HS := Lib.hid hs
                  have HUP2 : Hid (okUp l 3 = true) := Lib.hid (by show (okUp l 2 && okG l 2) = true; rw [HUP.out]; unfold okG; rw [HOKW.out.1, decide_eq_true HOKW.out.2, HOF2.out, decide_eq_true HNE.out, decide_eq_true (show nthB l 10 = sgn 2 from HS.out)]; simp)
                  generalize nthB l 10 = XS at *
                  subst hs
                  go_upto_region 18 with fail
                  generalize W' = Wy at *
                  refine region_rely (S := Ext) (fun Wz => Ext Wy Wz) [some 60, some 61, some 62, some 63, some 64, some 65, some 66, some 67, some 68, some 69] [[], [0], [1], [2], [2, 3], [2], [2], [2, 5, 6], [2, 4, 7], [2, 8]] [[], [], [], [], [], [], [], [], [], []] [.one (.string R2), .one (.bool false), .one (.bool false), .one (.string R2), .one (.int .u8 84), .one (.string ⟨#[45, 45, 84, 58, 58, 46]⟩), .one (.int .i64 2), .one (.int .u8 84), .one (.bool false), .one (.bool false)] (by kernel_rfl) (by kernel_rfl) (Ext.refl Wy).drew ?_ ?_
                  · refine stepsR_cons ?_ ?_
                    · intro vs W' hl hI hd ho
                      refine hold ?_
                      obtain ⟨x0, x1, x2, x3, x4, x5, x6, x7, x8, x9, rfl⟩ := lenlit10 hl; clear hl
                      refine held ?_
                      simp only [putAll, Act.put, List.setIfInBounds_toArray, List.set_cons_succ, List.set_cons_zero]
                      go_wp2_with fail
                      exact rely_done _ rfl rfl (Ext.refl _) hI
                    refine stepsR_cons ?_ ?_
                    · intro vs W' hl hI hd ho
                      refine hold ?_
                      obtain ⟨x0, x1, x2, x3, x4, x5, x6, x7, x8, x9, rfl⟩ := lenlit10 hl; clear hl
                      simp only [factsR, atR, List.getElem?_cons_succ, List.getElem?_cons_zero, Rel.one, Rel.blk] at hd
                      obtain ⟨rfl, -⟩ := hd
                      refine held ?_
                      simp only [putAll, Act.put, List.setIfInBounds_toArray, List.set_cons_succ, List.set_cons_zero]
                      go_wp2_with fail
                      exact rely_done _ rfl (congrArg Value.bool HEM.out) (Ext.refl _) hI
                    refine stepsR_cons ?_ ?_
                    · intro vs W' hl hI hd ho
                      refine hold ?_
                      obtain ⟨x0, x1, x2, x3, x4, x5, x6, x7, x8, x9, rfl⟩ := lenlit10 hl; clear hl
                      simp only [factsR, atR, List.getElem?_cons_succ, List.getElem?_cons_zero, Rel.one, Rel.blk] at hd
                      obtain ⟨rfl, -⟩ := hd
                      refine held ?_
                      simp only [putAll, Act.put, List.setIfInBounds_toArray, List.set_cons_succ, List.set_cons_zero]
                      go_wp2_with fail
                      exact rely_done _ rfl rfl (Ext.refl _) hI
                    refine stepsR_cons ?_ ?_
                    · intro vs W' hl hI hd ho
                      refine hold ?_
                      obtain ⟨x0, x1, x2, x3, x4, x5, x6, x7, x8, x9, rfl⟩ := lenlit10 hl; clear hl
                      simp only [factsR, atR, List.getElem?_cons_succ, List.getElem?_cons_zero, Rel.one, Rel.blk] at hd
                      obtain ⟨rfl, -⟩ := hd
                      refine held ?_
                      simp only [putAll, Act.put, List.setIfInBounds_toArray, List.set_cons_succ, List.set_cons_zero]
                      go_wp2_with fail
                      exact rely_done _ rfl rfl (Ext.refl _) hI
                    refine stepsR_cons ?_ ?_
                    · intro vs W' hl hI hd ho
                      refine hold ?_
                      obtain ⟨x0, x1, x2, x3, x4, x5, x6, x7, x8, x9, rfl⟩ := lenlit10 hl; clear hl
                      simp only [factsR, atR, List.getElem?_cons_succ, List.getElem?_cons_zero, Rel.one, Rel.blk] at hd
                      obtain ⟨rfl, rfl, -⟩ := hd
                      refine held ?_
                      simp only [putAll, Act.put, List.setIfInBounds_toArray, List.set_cons_succ, List.set_cons_zero]
                      go_wp2_with fail
                      exact rely_done _ rfl rfl (Ext.refl _) hI
                    refine stepsR_cons ?_ ?_
                    · intro vs W' hl hI hd ho
                      refine hold ?_
                      obtain ⟨x0, x1, x2, x3, x4, x5, x6, x7, x8, x9, rfl⟩ := lenlit10 hl; clear hl
                      simp only [factsR, atR, List.getElem?_cons_succ, List.getElem?_cons_zero, Rel.one, Rel.blk] at hd
                      obtain ⟨rfl, -⟩ := hd
                      refine held ?_
                      simp only [putAll, Act.put, List.setIfInBounds_toArray, List.set_cons_succ, List.set_cons_zero]
                      go_wp2_with fail
                      exact rely_done _ rfl rfl (Ext.refl _) hI
                    refine stepsR_cons ?_ ?_
                    · intro vs W' hl hI hd ho
                      refine hold ?_
                      obtain ⟨x0, x1, x2, x3, x4, x5, x6, x7, x8, x9, rfl⟩ := lenlit10 hl; clear hl
                      simp only [factsR, atR, List.getElem?_cons_succ, List.getElem?_cons_zero, Rel.one, Rel.blk] at hd
                      obtain ⟨rfl, -⟩ := hd
                      refine held ?_
                      simp only [putAll, Act.put, List.setIfInBounds_toArray, List.set_cons_succ, List.set_cons_zero]
                      go_wp2_with fail
                      exact rely_done _ rfl rfl (Ext.refl _) hI
                    refine stepsR_cons ?_ ?_
                    · intro vs W' hl hI hd ho
                      refine hold ?_
                      obtain ⟨x0, x1, x2, x3, x4, x5, x6, x7, x8, x9, rfl⟩ := lenlit10 hl; clear hl
                      simp only [factsR, atR, List.getElem?_cons_succ, List.getElem?_cons_zero, Rel.one, Rel.blk] at hd
                      obtain ⟨rfl, rfl, rfl, -⟩ := hd
                      refine held ?_
                      simp only [putAll, Act.put, List.setIfInBounds_toArray, List.set_cons_succ, List.set_cons_zero]
                      go_wp2_with fail
                      exact rely_done _ rfl rfl (Ext.refl _) hI
                    refine stepsR_cons ?_ ?_
                    · intro vs W' hl hI hd ho
                      refine hold ?_
                      obtain ⟨x0, x1, x2, x3, x4, x5, x6, x7, x8, x9, rfl⟩ := lenlit10 hl; clear hl
                      simp only [factsR, atR, List.getElem?_cons_succ, List.getElem?_cons_zero, Rel.one, Rel.blk] at hd
                      obtain ⟨rfl, rfl, rfl, -⟩ := hd
                      refine held ?_
                      simp only [putAll, Act.put, List.setIfInBounds_toArray, List.set_cons_succ, List.set_cons_zero]
                      go_wp2_with fail
                      exact rely_done _ rfl rfl (Ext.refl _) hI
                    refine stepsR_cons ?_ ?_
                    · intro vs W' hl hI hd ho
                      refine hold ?_
                      obtain ⟨x0, x1, x2, x3, x4, x5, x6, x7, x8, x9, rfl⟩ := lenlit10 hl; clear hl
                      simp only [factsR, atR, List.getElem?_cons_succ, List.getElem?_cons_zero, Rel.one, Rel.blk] at hd
                      obtain ⟨rfl, rfl, -⟩ := hd
                      refine held ?_
                      simp only [putAll, Act.put, List.setIfInBounds_toArray, List.set_cons_succ, List.set_cons_zero]
                      go_wp2_with fail
                      exact rely_done _ rfl rfl (Ext.refl _) hI
                    exact trivial
                  · intro vs W' hl hI hd
                    obtain ⟨x0, x1, x2, x3, x4, x5, x6, x7, x8, x9, rfl⟩ := lenlit10 hl; clear hl
                    simp only [List.length_cons, List.length_nil, List.range, List.range.loop, Nat.zero_add, Nat.reduceAdd, factsR, atR, List.getElem?_cons_succ, List.getElem?_cons_zero, Rel.one, Rel.blk] at hd
                    obtain ⟨rfl, rfl, rfl, rfl, rfl, rfl, rfl, rfl, rfl, rfl, -⟩ := hd
                    simp only [putAll, Act.put, List.setIfInBounds_toArray, List.set_cons_succ, List.set_cons_zero]
                    replace hx := hx.trans hI
                    go_wp2_with fail
                    exact ⟨⟨3, _, c3, by omega, by simp, rfl, rfl, by rw [HPV.out]; exact h3.ext hI, HUP2.out, hx⟩, by simp only [intOf]; omega⟩
                · have hno : Hid (fmtB l = false) := Lib.hid (fmtB_no (k := 2) (by decide) (by unfold okG; rw [decide_eq_false (show ¬ 2 = 6 by decide), HOF2.out, decide_eq_false (show ¬ nthB l 10 = sgn 2 from hs)]; simp))
                  generalize nthB l 10 = XS at *
                  have HSN := Lib.hid hs
                  clear hs
                  go_upto_region 18 with fail
                  generalize W' = Wy at *
                  refine region_rely (S := Ext) (fun Wz => Ext Wy Wz) [some 60, some 61, some 62, some 63, some 64, some 65, some 66, some 67, some 68, some 69] [[], [0], [1], [2], [2, 3], [2], [2], [2, 5, 6], [2, 4, 7], [2, 8]] [[], [], [], [], [], [], [], [], [], []] [.one (.string R2), .one (.bool false), .one (.bool false), .one (.string R2), .one (.int .u8 XS), .one (.string ⟨#[45, 45, 84, 58, 58, 46]⟩), .one (.int .i64 2), .one (.int .u8 84), .one (.bool true), .one (.bool true)] (by kernel_rfl) (by kernel_rfl) (Ext.refl Wy).drew ?_ ?_
                  · refine stepsR_cons ?_ ?_
                    · intro vs W' hl hI hd ho
                      refine hold ?_
                      obtain ⟨x0, x1, x2, x3, x4, x5, x6, x7, x8, x9, rfl⟩ := lenlit10 hl; clear hl
                      refine held ?_
                      simp only [putAll, Act.put, List.setIfInBounds_toArray, List.set_cons_succ, List.set_cons_zero]
                      go_wp2_with fail
                      exact rely_done _ rfl rfl (Ext.refl _) hI
                    refine stepsR_cons ?_ ?_
                    · intro vs W' hl hI hd ho
                      refine hold ?_
                      obtain ⟨x0, x1, x2, x3, x4, x5, x6, x7, x8, x9, rfl⟩ := lenlit10 hl; clear hl
                      simp only [factsR, atR, List.getElem?_cons_succ, List.getElem?_cons_zero, Rel.one, Rel.blk] at hd
                      obtain ⟨rfl, -⟩ := hd
                      refine held ?_
                      simp only [putAll, Act.put, List.setIfInBounds_toArray, List.set_cons_succ, List.set_cons_zero]
                      go_wp2_with fail
                      exact rely_done _ rfl (congrArg Value.bool HEM.out) (Ext.refl _) hI
                    refine stepsR_cons ?_ ?_
                    · intro vs W' hl hI hd ho
                      refine hold ?_
                      obtain ⟨x0, x1, x2, x3, x4, x5, x6, x7, x8, x9, rfl⟩ := lenlit10 hl; clear hl
                      simp only [factsR, atR, List.getElem?_cons_succ, List.getElem?_cons_zero, Rel.one, Rel.blk] at hd
                      obtain ⟨rfl, -⟩ := hd
                      refine held ?_
                      simp only [putAll, Act.put, List.setIfInBounds_toArray, List.set_cons_succ, List.set_cons_zero]
                      go_wp2_with fail
                      exact rely_done _ rfl rfl (Ext.refl _) hI
                    refine stepsR_cons ?_ ?_
                    · intro vs W' hl hI hd ho
                      refine hold ?_
                      obtain ⟨x0, x1, x2, x3, x4, x5, x6, x7, x8, x9, rfl⟩ := lenlit10 hl; clear hl
                      simp only [factsR, atR, List.getElem?_cons_succ, List.getElem?_cons_zero, Rel.one, Rel.blk] at hd
                      obtain ⟨rfl, -⟩ := hd
                      refine held ?_
                      simp only [putAll, Act.put, List.setIfInBounds_toArray, List.set_cons_succ, List.set_cons_zero]
                      go_wp2_with fail
                      exact rely_done _ rfl rfl (Ext.refl _) hI
                    refine stepsR_cons ?_ ?_
                    · intro vs W' hl hI hd ho
                      refine hold ?_
                      obtain ⟨x0, x1, x2, x3, x4, x5, x6, x7, x8, x9, rfl⟩ := lenlit10 hl; clear hl
                      simp only [factsR, atR, List.getElem?_cons_succ, List.getElem?_cons_zero, Rel.one, Rel.blk] at hd
                      obtain ⟨rfl, rfl, -⟩ := hd
                      refine held ?_
                      simp only [putAll, Act.put, List.setIfInBounds_toArray, List.set_cons_succ, List.set_cons_zero]
                      go_wp2_with fail
                      exact rely_done _ rfl rfl (Ext.refl _) hI
                    refine stepsR_cons ?_ ?_
                    · intro vs W' hl hI hd ho
                      refine hold ?_
                      obtain ⟨x0, x1, x2, x3, x4, x5, x6, x7, x8, x9, rfl⟩ := lenlit10 hl; clear hl
                      simp only [factsR, atR, List.getElem?_cons_succ, List.getElem?_cons_zero, Rel.one, Rel.blk] at hd
                      obtain ⟨rfl, -⟩ := hd
                      refine held ?_
                      simp only [putAll, Act.put, List.setIfInBounds_toArray, List.set_cons_succ, List.set_cons_zero]
                      go_wp2_with fail
                      exact rely_done _ rfl rfl (Ext.refl _) hI
                    refine stepsR_cons ?_ ?_
                    · intro vs W' hl hI hd ho
                      refine hold ?_
                      obtain ⟨x0, x1, x2, x3, x4, x5, x6, x7, x8, x9, rfl⟩ := lenlit10 hl; clear hl
                      simp only [factsR, atR, List.getElem?_cons_succ, List.getElem?_cons_zero, Rel.one, Rel.blk] at hd
                      obtain ⟨rfl, -⟩ := hd
                      refine held ?_
                      simp only [putAll, Act.put, List.setIfInBounds_toArray, List.set_cons_succ, List.set_cons_zero]
                      go_wp2_with fail
                      exact rely_done _ rfl rfl (Ext.refl _) hI
                    refine stepsR_cons ?_ ?_
                    · intro vs W' hl hI hd ho
                      refine hold ?_
                      obtain ⟨x0, x1, x2, x3, x4, x5, x6, x7, x8, x9, rfl⟩ := lenlit10 hl; clear hl
                      simp only [factsR, atR, List.getElem?_cons_succ, List.getElem?_cons_zero, Rel.one, Rel.blk] at hd
                      obtain ⟨rfl, rfl, rfl, -⟩ := hd
                      refine held ?_
                      simp only [putAll, Act.put, List.setIfInBounds_toArray, List.set_cons_succ, List.set_cons_zero]
                      go_wp2_with fail
                      exact rely_done _ rfl rfl (Ext.refl _) hI
                    refine stepsR_cons ?_ ?_
                    · intro vs W' hl hI hd ho
                      refine hold ?_
                      obtain ⟨x0, x1, x2, x3, x4, x5, x6, x7, x8, x9, rfl⟩ := lenlit10 hl; clear hl
                      simp only [factsR, atR, List.getElem?_cons_succ, List.getElem?_cons_zero, Rel.one, Rel.blk] at hd
                      obtain ⟨rfl, rfl, rfl, -⟩ := hd
                      refine held ?_
                      simp only [putAll, Act.put, List.setIfInBounds_toArray, List.set_cons_succ, List.set_cons_zero]
                      go_wp2_with fail
                      exact rely_done _ rfl (congrArg Value.bool (bne_iff_ne.2 HSN.out)) (Ext.refl _) hI
                    refine stepsR_cons ?_ ?_
                    · intro vs W' hl hI hd ho
                      refine hold ?_
                      obtain ⟨x0, x1, x2, x3, x4, x5, x6, x7, x8, x9, rfl⟩ := lenlit10 hl; clear hl
                      simp only [factsR, atR, List.getElem?_cons_succ, List.getElem?_cons_zero, Rel.one, Rel.blk] at hd
                      obtain ⟨rfl, rfl, -⟩ := hd
                      refine held ?_
                      simp only [putAll, Act.put, List.setIfInBounds_toArray, List.set_cons_succ, List.set_cons_zero]
                      go_wp2_with fail
                      exact rely_done _ rfl rfl (Ext.refl _) hI
                    exact trivial
                  · intro vs W' hl hI hd
                    obtain ⟨x0, x1, x2, x3, x4, x5, x6, x7, x8, x9, rfl⟩ := lenlit10 hl; clear hl
                    simp only [List.length_cons, List.length_nil, List.range, List.range.loop, Nat.zero_add, Nat.reduceAdd, factsR, atR, List.getElem?_cons_succ, List.getElem?_cons_zero, Rel.one, Rel.blk] at hd
                    obtain ⟨rfl, rfl, rfl, rfl, rfl, rfl, rfl, rfl, rfl, rfl, -⟩ := hd
                    simp only [putAll, Act.put, List.setIfInBounds_toArray, List.set_cons_succ, List.set_cons_zero]
                    replace hx := hx.trans hI
                    go_wp2_with fail
                    (try rw [Exit.noGoto_ret])
                    go_ret2
                    exact ⟨none, 0, 0, false, rfl, hx, hno.out.symm, fun h => by cases h⟩
              · have hno : Hid (fmtB l = false) := Lib.hid (fmtB_no (k := 2) (by decide) (by unfold okG; rw [decide_eq_false (show ¬ 2 = 6 by decide), HOF2.out, decide_eq_false hne]; simp))
                have hemp : (mkS (l.drop 10)).toList.isEmpty = true := by
                  rw [HXT.out, List.drop_of_length_le (by omega)]; rfl
                clear hRZ2 HXA HXB HXT
                generalize mkS (l.drop 10) = R2 at *
                have HEM := Lib.hid hemp
                clear hemp
                go_upto_region 18 with fail
                generalize W' = Wy at *
                refine region_rely (S := Ext) (fun Wz => Ext Wy Wz) [some 60, some 61, some 62, some 63, some 64, some 65, some 66, some 67, some 68, some 69] [[], [0], [1], [2], [2, 3], [2], [2], [2, 5, 6], [2, 4, 7], [2, 8]] [[], [], [], [], [], [], [], [], [], []] [.one (.string R2), .one (.bool true), .one (.bool true), .one (undef), .one (undef), .one (undef), .one (undef), .one (undef), .one (undef), .one (.bool true)] (by kernel_rfl) (by kernel_rfl) (Ext.refl Wy).drew ?_ ?_
                · refine stepsR_cons ?_ ?_
                  · intro vs W' hl hI hd ho
                    refine hold ?_
                    obtain ⟨x0, x1, x2, x3, x4, x5, x6, x7, x8, x9, rfl⟩ := lenlit10 hl; clear hl
                    refine held ?_
                    simp only [putAll, Act.put, List.setIfInBounds_toArray, List.set_cons_succ, List.set_cons_zero]
                    go_wp2_with fail
                    exact rely_done _ rfl rfl (Ext.refl _) hI
                  refine stepsR_cons ?_ ?_
                  · intro vs W' hl hI hd ho
                    refine hold ?_
                    obtain ⟨x0, x1, x2, x3, x4, x5, x6, x7, x8, x9, rfl⟩ := lenlit10 hl; clear hl
                    simp only [factsR, atR, List.getElem?_cons_succ, List.getElem?_cons_zero, Rel.one, Rel.blk] at hd
                    obtain ⟨rfl, -⟩ := hd
                    refine held ?_
                    simp only [putAll, Act.put, List.setIfInBounds_toArray, List.set_cons_succ, List.set_cons_zero]
                    go_wp2_with fail
                    exact rely_done _ rfl (congrArg Value.bool HEM.out) (Ext.refl _) hI
                  refine stepsR_cons ?_ ?_
                  · intro vs W' hl hI hd ho
                    refine hold ?_
                    obtain ⟨x0, x1, x2, x3, x4, x5, x6, x7, x8, x9, rfl⟩ := lenlit10 hl; clear hl
                    simp only [factsR, atR, List.getElem?_cons_succ, List.getElem?_cons_zero, Rel.one, Rel.blk] at hd
                    obtain ⟨rfl, -⟩ := hd
                    refine held ?_
                    simp only [putAll, Act.put, List.setIfInBounds_toArray, List.set_cons_succ, List.set_cons_zero]
                    go_wp2_with fail
                    exact rely_done _ rfl rfl (Ext.refl _) hI
                  refine stepsR_cons ?_ ?_
                  · intro vs W' hl hI hd ho
                    refine hold ?_
                    obtain ⟨x0, x1, x2, x3, x4, x5, x6, x7, x8, x9, rfl⟩ := lenlit10 hl; clear hl
                    simp only [factsR, atR, List.getElem?_cons_succ, List.getElem?_cons_zero, Rel.one, Rel.blk] at hd
                    obtain ⟨rfl, -⟩ := hd
                    refine held ?_
                    simp only [putAll, Act.put, List.setIfInBounds_toArray, List.set_cons_succ, List.set_cons_zero]
                    skip
                    exact rely_undef (by rfl) rfl rfl (Ext.refl _) hI
                  refine stepsR_cons ?_ ?_
                  · intro vs W' hl hI hd ho
                    refine hold ?_
                    obtain ⟨x0, x1, x2, x3, x4, x5, x6, x7, x8, x9, rfl⟩ := lenlit10 hl; clear hl
                    simp only [factsR, atR, List.getElem?_cons_succ, List.getElem?_cons_zero, Rel.one, Rel.blk] at hd
                    obtain ⟨rfl, rfl, -⟩ := hd
                    refine held ?_
                    simp only [putAll, Act.put, List.setIfInBounds_toArray, List.set_cons_succ, List.set_cons_zero]
                    skip
                    exact rely_undef (by rfl) rfl rfl (Ext.refl _) hI
                  refine stepsR_cons ?_ ?_
                  · intro vs W' hl hI hd ho
                    refine hold ?_
                    obtain ⟨x0, x1, x2, x3, x4, x5, x6, x7, x8, x9, rfl⟩ := lenlit10 hl; clear hl
                    simp only [factsR, atR, List.getElem?_cons_succ, List.getElem?_cons_zero, Rel.one, Rel.blk] at hd
                    obtain ⟨rfl, -⟩ := hd
                    refine held ?_
                    simp only [putAll, Act.put, List.setIfInBounds_toArray, List.set_cons_succ, List.set_cons_zero]
                    skip
                    exact rely_undef (by rfl) rfl rfl (Ext.refl _) hI
                  refine stepsR_cons ?_ ?_
                  · intro vs W' hl hI hd ho
                    refine hold ?_
                    obtain ⟨x0, x1, x2, x3, x4, x5, x6, x7, x8, x9, rfl⟩ := lenlit10 hl; clear hl
                    simp only [factsR, atR, List.getElem?_cons_succ, List.getElem?_cons_zero, Rel.one, Rel.blk] at hd
                    obtain ⟨rfl, -⟩ := hd
                    refine held ?_
                    simp only [putAll, Act.put, List.setIfInBounds_toArray, List.set_cons_succ, List.set_cons_zero]
                    skip
                    exact rely_undef (by rfl) rfl rfl (Ext.refl _) hI
                  refine stepsR_cons ?_ ?_
                  · intro vs W' hl hI hd ho
                    refine hold ?_
                    obtain ⟨x0, x1, x2, x3, x4, x5, x6, x7, x8, x9, rfl⟩ := lenlit10 hl; clear hl
                    simp only [factsR, atR, List.getElem?_cons_succ, List.getElem?_cons_zero, Rel.one, Rel.blk] at hd
                    obtain ⟨rfl, rfl, rfl, -⟩ := hd
                    refine held ?_
                    simp only [putAll, Act.put, List.setIfInBounds_toArray, List.set_cons_succ, List.set_cons_zero]
                    skip
                    exact rely_undef (by rfl) rfl rfl (Ext.refl _) hI
                  refine stepsR_cons ?_ ?_
                  · intro vs W' hl hI hd ho
                    refine hold ?_
                    obtain ⟨x0, x1, x2, x3, x4, x5, x6, x7, x8, x9, rfl⟩ := lenlit10 hl; clear hl
                    simp only [factsR, atR, List.getElem?_cons_succ, List.getElem?_cons_zero, Rel.one, Rel.blk] at hd
                    obtain ⟨rfl, rfl, rfl, -⟩ := hd
                    refine held ?_
                    simp only [putAll, Act.put, List.setIfInBounds_toArray, List.set_cons_succ, List.set_cons_zero]
                    skip
                    exact rely_undef (by rfl) rfl rfl (Ext.refl _) hI
                  refine stepsR_cons ?_ ?_
                  · intro vs W' hl hI hd ho
                    refine hold ?_
                    obtain ⟨x0, x1, x2, x3, x4, x5, x6, x7, x8, x9, rfl⟩ := lenlit10 hl; clear hl
                    simp only [factsR, atR, List.getElem?_cons_succ, List.getElem?_cons_zero, Rel.one, Rel.blk] at hd
                    obtain ⟨rfl, rfl, -⟩ := hd
                    refine held ?_
                    simp only [putAll, Act.put, List.setIfInBounds_toArray, List.set_cons_succ, List.set_cons_zero]
                    go_wp2_with fail
                    exact rely_done _ rfl rfl (Ext.refl _) hI
                  exact trivial
                · intro vs W' hl hI hd
                  obtain ⟨x0, x1, x2, x3, x4, x5, x6, x7, x8, x9, rfl⟩ := lenlit10 hl; clear hl
                  simp only [List.length_cons, List.length_nil, List.range, List.range.loop, Nat.zero_add, Nat.reduceAdd, factsR, atR, List.getElem?_cons_succ, List.getElem?_cons_zero, Rel.one, Rel.blk] at hd
                  obtain ⟨rfl, rfl, rfl, rfl, rfl, rfl, rfl, rfl, rfl, rfl, -⟩ := hd
                  simp only [putAll, Act.put, List.setIfInBounds_toArray, List.set_cons_succ, List.set_cons_zero]
                  replace hx := hx.trans hI
                  go_wp2_with fail
                  (try rw [Exit.noGoto_ret])
                  go_ret2
                  exact ⟨none, 0, 0, false, rfl, hx, hno.out.symm, fun h => by cases h⟩
      · have hno : Hid (fmtB l = false) := Lib.hid (fmtB_no (k := 2) (by decide) (by unfold okG; rw [HOF.out]; rw [decide_eq_false (by rw [HWD.out]; exact hlen)]; rfl))
        have q1 : (RZ : Int) < 2 := by omega
        generalize mkS (l.drop 8) = R at *
        clear hX1 hX2 hR0
        go_wp2_with fail
        (try rw [Exit.noGoto_ret])
        go_ret2
        exact ⟨none, 0, 0, false, rfl, hx, hno.out.symm, fun h => by cases h⟩
    · have p := hdr.c 3 _ rfl
      have hof : off 3 = 11 := rfl
      have HOF := Lib.hid hof
      have hwd : wid 3 = 2 := rfl
      have HWD := Lib.hid hwd
      rw [hof]
      obtain ⟨RZ, hRZ⟩ : ∃ RZ, l.length - 11 = RZ := ⟨_, rfl⟩
      have hRz : (mkS (l.drop 11)).size = RZ := by rw [mkS_size, List.length_drop, hRZ]
      have hX1 : (mkS (l.drop 11)).extract 0 2 = mkS ((l.drop 11).take 2) := by rw [mkS_extract]; simp
      have hX2 : (mkS (l.drop 11)).extract 2 RZ = mkS (l.drop 13) := by
        rw [mkS_extract, List.drop_drop, List.take_of_length_le (by rw [List.length_drop]; omega)]
      by_cases hlen : 11 + 2 ≤ l.length
      · have q1 : (2 : Int) ≤ (RZ : Int) := by omega
        have q2 : ¬ ((RZ : Int) < 2) := by omega
        have hGs : (mkS ((l.drop 11).take 2)).size = 2 := by rw [mkS_size, List.length_take, List.length_drop]; omega
        have hcv := run_bytes_of_string (P := Tryd.prog) wr 9 66 5 (mkS ((l.drop 11).take 2)) (by kernel_rfl) (by kernel_rfl) (by kernel_rfl)
        rw [hGs] at hcv
        have hbc : ∀ j, j < 2 → (wr.drew.alloc (.cells (bytesRow (mkS ((l.drop 11).take 2)) (grownCap wr 2 0 5)) 5 ((bytesRow (mkS ((l.drop 11).take 2)) (grownCap wr 2 0 5)).size, (bytesRow (mkS ((l.drop 11).take 2)) (grownCap wr 2 0 5)).size + 1))).cell? ⟨wr.heap.size, j, none⟩ = some (.int .u8 (nthB l (11 + j))) := fun j hj => by
          rw [← nthB_drop l 11 j, ← nthB_take (l.drop 11) 2 j hj]
          exact bytes_cell wr.drew _ _ _ _ j (by rw [List.length_take, List.length_drop]; omega)
        have hEc : Ext wr (wr.drew.alloc (.cells (bytesRow (mkS ((l.drop 11).take 2)) (grownCap wr 2 0 5)) 5 ((bytesRow (mkS ((l.drop 11).take 2)) (grownCap wr 2 0 5)).size, (bytesRow (mkS ((l.drop 11).take 2)) (grownCap wr 2 0 5)).size + 1))) := (Ext.refl wr).drew.alloc _
        generalize wr.drew.alloc (.cells (bytesRow (mkS ((l.drop 11).take 2)) (grownCap wr 2 0 5)) 5 ((bytesRow (mkS ((l.drop 11).take 2)) (grownCap wr 2 0 5)).size, (bytesRow (mkS ((l.drop 11).take 2)) (grownCap wr 2 0 5)).size + 1)) = W1 at *
        generalize grownCap wr 2 0 5 = CP at *
        generalize hGG : mkS ((l.drop 11).take 2) = GG at *
        clear hGG
        have HBC := Lib.hid hbc
        have HLEN := Lib.hid hlen
        have HX2 := Lib.hid hX2
        have HRZ := Lib.hid hRZ
        have hbl : wr.heap.size = wr.heap.size := rfl
        obtain ⟨bb, hbb⟩ : ∃ bb, wr.heap.size = bb := ⟨_, rfl⟩
        rw [hbb] at hcv HBC
        clear hbc hlen hX2 hR0 hbl hbb
        generalize mkS (l.drop 11) = R at *
        go_wp2_with fail
        go_loopw [12, 32] (fun nn j wq => ∃ (i : Nat), i ≤ 2 ∧ j = .int .i64 (i : Int) ∧ nn = .int .i64 (numB l 11 i) ∧ allB l 11 i = true ∧ Ext W1 wq) (fun _ j _ => 2 - (intOf j).toNat)
        case atStart => exact ⟨0, by omega, rfl, rfl, rfl, Ext.refl _⟩
        case round =>
          obtain ⟨i, hi, rfl, rfl, hal, hy⟩ := hrel
          have hEq := hEc.trans hy
          have HAL := Lib.hid hal
          have hnb := numB_bd hal
          have hpow : (10 : Int) ^ i ≤ 1000000 := by
            have := Nat.pow_le_pow_right (show 0 < 10 by decide) (show i ≤ 6 by omega)
            have h2 : ((10 ^ i : Nat) : Int) ≤ ((10 ^ 6 : Nat) : Int) := by exact_mod_cast this
            simpa using h2
          have hnb2 : 0 ≤ numB l 11 i ∧ numB l 11 i < 1000000 := by omega
          clear hal hnb hpow
          by_cases hlt2 : i < 2
          · have c8 := hy.cell (HBC.out i hlt2)
            have HNS : Hid (numB l 11 (i + 1) = 10 * numB l 11 i + (nthB l (11 + i) - 48)) := Lib.hid rfl
            have hbb2 := nthB_bd l (11 + i)
            have HAS : Hid (digB (nthB l (11 + i)) = true → allB l 11 (i + 1) = true) := Lib.hid (fun h => by simp only [allB]; rw [HAL.out, h]; rfl)
            have HAN : Hid (digB (nthB l (11 + i)) = false → allB l 11 2 = false) := Lib.hid (fun h => allB_not hlt2 h)
            generalize numB l 11 i = NN at *
            generalize nthB l (11 + i) = XB at *
            by_cases hd1 : 48 ≤ XB
            · by_cases hd2 : XB ≤ 57
              · have hd1' : ¬ XB < 48 := by omega
                have hd2' : ¬ 57 < XB := by omega
                have HDG := Lib.hid (HAS.out (digB_iff.2 ⟨hd1, hd2⟩))
                go_wp2_with fail
                exact ⟨⟨i + 1, by omega, by go_num, by rw [HNS.out], HDG.out, hy⟩, by simp only [intOf]; omega⟩
              · have hd2' : 57 < XB := by omega
                have hd1' : ¬ XB < 48 := by omega
                have hf := HAN.out (by rw [Bool.eq_false_iff]; exact fun h => hd2 (digB_iff.1 h).2)
                have hno : Hid (fmtB l = false) := Lib.hid (fmtB_no (k := 3) (by decide) (by unfold okG; rw [HOF.out]; rw [HWD.out, hf]; simp))
                clear hf
                go_wp2_with fail
                (try rw [Exit.noGoto_ret])
                go_ret2
                exact ⟨none, 0, 0, false, rfl, hx.trans hEq, hno.out.symm, fun h => by cases h⟩
            · have hd1' : XB < 48 := by omega
              have hf := HAN.out (by rw [Bool.eq_false_iff]; exact fun h => hd1 (digB_iff.1 h).1)
              have hno : Hid (fmtB l = false) := Lib.hid (fmtB_no (k := 3) (by decide) (by unfold okG; rw [HOF.out]; rw [HWD.out, hf]; simp))
              clear hf
              go_wp2_with fail
              (try rw [Exit.noGoto_ret])
              go_ret2
              exact ⟨none, 0, 0, false, rfl, hx.trans hEq, hno.out.symm, fun h => by cases h⟩
          · obtain rfl : i = 2 := by omega
            have hNV : valB l 3 = numB l 11 2 := rfl
            have hPV : valsB l 4 = valsB l 3 ++ [valB l 3] := rfl
            rw [hNV] at hPV
            have HPV := Lib.hid hPV
            clear hNV hPV
            have ho2 := ho.ext hEq
            have hxq := hx.trans hEq
            generalize numB l 11 2 = NV at *
            generalize valsB l 3 = PV at *
            have hwNV : (Lit.int .i64 NV).wf = true := wfi (by omega) (by omega)
            have hX2 := HX2.out
            go_upto_region 16 with fail
            have hEz := hxq
            have HOKW : Hid (allB l (off 3) (wid 3) = true ∧ off 3 + wid 3 ≤ l.length) := Lib.hid ⟨HAL.out, HLEN.out⟩
            clear hxq hEq hy hEc hx hcv HBC HAL hdr p q2
            have hoZ := ho2
            have hB0 := hEz.sz
            clear ho2 ho
            generalize wr = Vz at *
            refine region_relyF (fun listed W' => Ext w W' ∧ (listed 3 = false → Ext Vz W')) [some 49, some 50, some 51, some 52, some 53, some 54, some 55, some 8, some 9] [[], [], [1], [0, 1, 2], [], [], [4, 5], [0, 1, 2, 3], [0, 1, 2, 3, 4, 5, 6, 7]] [[], [], [1], [0, 2], [], [], [4, 5], [3], [6]] [none, none, none, none, none, none, none, some 3, none] [false, false, false, false, false, false, false, false, false] [.one (.slice aa 3 cc), .one (.int .i64 NV), RLi Vz.heap.size #[.int .i64 NV], RNi w.heap.size 4 (PV ++ [NV]), .one (.string R), .one (.int .i64 2), .one (.string (mkS (l.drop 13))), RSm 3, .one (.string (mkS (l.drop 13)))] (by kernel_rfl) (by kernel_rfl) rfl ⟨hEz.drew, fun _ => (Ext.refl Vz).drew⟩ ?_ ?_
            · refine stepsF_cons ?_ ?_
              · intro listed vs W' hl hI hd hs hn hu hz ho9
                refine hold ?_
                obtain ⟨x0, x1, x2, x3, x4, x5, x6, x7, x8, rfl⟩ := lenlit9 hl; clear hl
                refine held ?_
                simp only [putAll, Act.put, List.setIfInBounds_toArray, List.set_cons_succ, List.set_cons_zero]
                have h7z : listed 7 = false := by cases h : listed 7 with | false => rfl | true => exact absurd (by decide) (hu 7 h)
                obtain rfl : x7 = .slice aa 3 cc := ho9 7 (some 8) x7 h7z rfl rfl
                go_wp2_with fail
                exact relyE_done _ rfl rfl (Ext.refl _) ⟨hI.1, fun h => hI.2 (updE_false h)⟩
              refine stepsF_cons ?_ ?_
              · intro listed vs W' hl hI hd hs hn hu hz ho9
                refine hold ?_
                obtain ⟨x0, x1, x2, x3, x4, x5, x6, x7, x8, rfl⟩ := lenlit9 hl; clear hl
                refine held ?_
                simp only [putAll, Act.put, List.setIfInBounds_toArray, List.set_cons_succ, List.set_cons_zero]
                go_wp2_with fail
                exact relyE_done _ rfl rfl (Ext.refl _) ⟨hI.1, fun h => hI.2 (updE_false h)⟩
              refine stepsF_cons ?_ ?_
              · intro listed vs W' hl hI hd hs hn hu hz ho9
                refine hold ?_
                obtain ⟨x0, x1, x2, x3, x4, x5, x6, x7, x8, rfl⟩ := lenlit9 hl; clear hl
                simp only [factsL, atL, refV, List.getElem?_cons_succ, List.getElem?_cons_zero, List.getD_cons_succ, List.getD_cons_zero, RelL.one, RelL.any, RelL.blk, RelL.law, RNi, RLi, RSm] at hd
                obtain ⟨rfl, -⟩ := hd
                refine held ?_
                simp only [putAll, Act.put, List.setIfInBounds_toArray, List.set_cons_succ, List.set_cons_zero]
                go_wp2_with fail
                have h3z : listed 3 = false := by cases h : listed 3 with | false => rfl | true => exact absurd (by decide) (hu 3 h)
                exact relyE_done _ rfl ⟨_, rfl, (hI.2 h3z).sz, World.alloc_heap_new _ _⟩ ((Ext.refl _).alloc _) ⟨hI.1.alloc _, fun h => (hI.2 (updE_false h)).alloc _⟩
              refine stepsF_cons ?_ ?_
              · intro listed vs W' hl hI hd hs hn hu hz ho9
                refine hold ?_
                obtain ⟨x0, x1, x2, x3, x4, x5, x6, x7, x8, rfl⟩ := lenlit9 hl; clear hl
                simp only [factsL, atL, refV, List.getElem?_cons_succ, List.getElem?_cons_zero, List.getD_cons_succ, List.getD_cons_zero, RelL.one, RelL.any, RelL.blk, RelL.law, RNi, RLi, RSm] at hd
                obtain ⟨rfl, ⟨b2, rfl, hb2, hB2⟩, -⟩ := hd
                refine held ?_
                simp only [putAll, Act.put, List.setIfInBounds_toArray, List.set_cons_succ, List.set_cons_zero]
                have hz2 := hI.2 hz
                have hbz : w.heap.size ≤ W'.heap.size := by have := hz2.sz; have := hB0; omega
                have ho2 := hoZ.ext hz2
                have hlit : Sl .i64 W' (some ⟨b2, 0, none⟩) 1 1 [NV] := lit_of_block (E := 3) hB2 hwNV
                go_wp2_with (at_builtin; refine appSg el_i64 rfl _ _ rfl _ w.heap.size _ _ _ _ rfl ho2 _ _ _ _ rfl hlit (by omega) hbz (by unfold maxLen; omega) (by omega) ?_; intro g3 c3 w3 hop hB hg; refine hold ?_)
                refine held ?_
                exact wpList_nil (relyE_store _ rfl ⟨_, _, rfl, hop⟩ hB.size ⟨fun _ _ h => h, fun _ _ h => h, fun _ _ ⟨b, e1, e2, e3⟩ => ⟨b, e1, e2, (hg.block b (Array.getElem?_eq_some_iff.1 e3).1 (fun e => Nat.lt_irrefl _ (Nat.lt_of_lt_of_le (World.ownsRow.lt hoZ b e.symm).2 e2))).trans e3⟩, fun _ hk _ => absurd rfl hk, fun _ _ h => h, fun _ _ h => h, fun _ _ h => h, fun _ _ h => h, fun _ _ h => h, trivial⟩ ⟨Below.trans hI.1 hB, fun h => by simp [updE] at h⟩)
              refine stepsF_cons ?_ ?_
              · intro listed vs W' hl hI hd hs hn hu hz ho9
                refine hold ?_
                obtain ⟨x0, x1, x2, x3, x4, x5, x6, x7, x8, rfl⟩ := lenlit9 hl; clear hl
                refine held ?_
                simp only [putAll, Act.put, List.setIfInBounds_toArray, List.set_cons_succ, List.set_cons_zero]
                have h7z : listed 8 = false := by cases h : listed 8 with | false => rfl | true => exact absurd (by decide) (hu 8 h)
                obtain rfl : x8 = .string R := ho9 8 (some 9) x8 h7z rfl rfl
                go_wp2_with fail
                exact relyE_done _ rfl rfl (Ext.refl _) ⟨hI.1, fun h => hI.2 (updE_false h)⟩
              refine stepsF_cons ?_ ?_
              · intro listed vs W' hl hI hd hs hn hu hz ho9
                refine hold ?_
                obtain ⟨x0, x1, x2, x3, x4, x5, x6, x7, x8, rfl⟩ := lenlit9 hl; clear hl
                refine held ?_
                simp only [putAll, Act.put, List.setIfInBounds_toArray, List.set_cons_succ, List.set_cons_zero]
                go_wp2_with fail
                exact relyE_done _ rfl rfl (Ext.refl _) ⟨hI.1, fun h => hI.2 (updE_false h)⟩
              refine stepsF_cons ?_ ?_
              · intro listed vs W' hl hI hd hs hn hu hz ho9
                refine hold ?_
                obtain ⟨x0, x1, x2, x3, x4, x5, x6, x7, x8, rfl⟩ := lenlit9 hl; clear hl
                simp only [factsL, atL, refV, List.getElem?_cons_succ, List.getElem?_cons_zero, List.getD_cons_succ, List.getD_cons_zero, RelL.one, RelL.any, RelL.blk, RelL.law, RNi, RLi, RSm] at hd
                obtain ⟨rfl, rfl, -⟩ := hd
                refine held ?_
                simp only [putAll, Act.put, List.setIfInBounds_toArray, List.set_cons_succ, List.set_cons_zero]
                go_wp2_with fail
                exact relyE_done _ rfl rfl (Ext.refl _) ⟨hI.1, fun h => hI.2 (updE_false h)⟩
              refine stepsF_cons ?_ ?_
              · intro listed vs W' hl hI hd hs hn hu hz ho9
                refine hold ?_
                obtain ⟨x0, x1, x2, x3, x4, x5, x6, x7, x8, rfl⟩ := lenlit9 hl; clear hl
                simp only [factsL, atL, refV, List.getElem?_cons_succ, List.getElem?_cons_zero, List.getD_cons_succ, List.getD_cons_zero, RelL.one, RelL.any, RelL.blk, RelL.law, RNi, RLi, RSm] at hd
                obtain ⟨⟨g3, c3, rfl, h3⟩, -⟩ := hd
                refine held ?_
                simp only [putAll, Act.put, List.setIfInBounds_toArray, List.set_cons_succ, List.set_cons_zero]
                go_wp2_with fail
                exact relyE_done _ rfl rfl (Ext.refl _) ⟨hI.1, fun h => hI.2 (updE_false h)⟩
              refine stepsF_cons ?_ ?_
              · intro listed vs W' hl hI hd hs hn hu hz ho9
                refine hold ?_
                obtain ⟨x0, x1, x2, x3, x4, x5, x6, x7, x8, rfl⟩ := lenlit9 hl; clear hl
                simp only [factsL, atL, refV, List.getElem?_cons_succ, List.getElem?_cons_zero, List.getD_cons_succ, List.getD_cons_zero, RelL.one, RelL.any, RelL.blk, RelL.law, RNi, RLi, RSm] at hd
                obtain ⟨rfl, -⟩ := hd
                refine held ?_
                simp only [putAll, Act.put, List.setIfInBounds_toArray, List.set_cons_succ, List.set_cons_zero]
                go_wp2_with fail
                exact relyE_done _ rfl rfl (Ext.refl _) ⟨hI.1, fun h => hI.2 (updE_false h)⟩
              exact trivial
            · intro listed vs W' hl hall hI hd hn
              obtain ⟨x0, x1, x2, x3, x4, x5, x6, x7, x8, rfl⟩ := lenlit9 hl; clear hl
              simp only [List.length_cons, List.length_nil, List.range, List.range.loop, Nat.zero_add, Nat.reduceAdd, factsL, atL, refV, List.getElem?_cons_succ, List.getElem?_cons_zero, List.getD_cons_succ, List.getD_cons_zero, RelL.one, RelL.any, RelL.blk, RelL.law, RNi, RLi, RSm] at hd
              obtain ⟨rfl, rfl, -, ⟨g3, c3, rfl, h3⟩, rfl, rfl, rfl, rfl, rfl, -⟩ := hd
              simp only [putAll, Act.put, List.setIfInBounds_toArray, List.set_cons_succ, List.set_cons_zero]
              have hx := hI.1
              have hof2 : off 3 + wid 3 = 13 := rfl
              have HOF2 := Lib.hid hof2
              have hofn : off 4 = 14 := rfl
              have HOFN := Lib.hid hofn
              clear hof2 hofn hI hn hX2
              obtain ⟨RZ2, hRZ2⟩ : ∃ RZ2, l.length - 13 = RZ2 := ⟨_, rfl⟩
              have HXA := Lib.hid (show (mkS (l.drop 13)).size = RZ2 by rw [mkS_size, List.length_drop, hRZ2])
              have HXB := Lib.hid (show (mkS (l.drop 13)).extract 1 RZ2 = mkS (l.drop 14) by rw [mkS_extract, List.drop_drop, List.take_of_length_le (by rw [List.length_drop]; omega)])
              have HXT := Lib.hid (mkS_toList (l.drop 13))
              by_cases hne : 13 < l.length
              · have hemp : (mkS (l.drop 13)).toList.isEmpty = false := by
                  rw [HXT.out]
                  have : l.drop 13 ≠ [] := fun h => by have := congrArg List.length h; rw [List.length_drop] at this; simp at this; omega
                  cases h : l.drop 13 with
                  | nil => exact absurd h this
                  | cons a b => rfl
                have hix : ∀ W : World, (Instr.index 9 (.string (mkS (l.drop 13))) (.int .i64 0)).run Tryd.prog W = .ok (.int .u8 (nthB l 13)) W := fun W => by
                  have := index_mkS (l.drop 13) 0 (by rw [List.length_drop]; omega) 9 (by kernel_rfl) W
                  rw [nthB_drop] at this
                  exact this
                have q3 : (1 : Int) ≤ (RZ2 : Int) := by omega
                have HNE := Lib.hid hne
                have hXA := HXA.out
                have hXB := HXB.out
                clear hne hRZ2 HXA HXB HXT
                generalize mkS (l.drop 13) = R2 at *
                have HEM := Lib.hid hemp
                clear hemp
                by_cases hs : nthB l 13 = 58
                · have HS := Lib.hid hs
                  have HUP2 : Hid (okUp l 4 = true) := Lib.hid (by show (okUp l 3 && okG l 3) = true; rw [HUP.out]; unfold okG; rw [HOKW.out.1, decide_eq_true HOKW.out.2, HOF2.out, decide_eq_true HNE.out, decide_eq_true (show nthB l 13 = sgn 3 from HS.out)]; simp)
                  generalize nthB l 13 = XS at *
                  subst hs
                  go_upto_region 18 with fail
                  generalize W' = Wy at *
                  refine region_rely (S := Ext) (fun Wz => Ext Wy Wz) [some 60, some 61, some 62, some 63, some 64, some 65, some 66, some 67, some 68, some 69] [[], [0], [1], [2], [2, 3], [2], [2], [2, 5, 6], [2, 4, 7], [2, 8]] [[], [], [], [], [], [], [], [], [], []] [.one (.string R2), .one (.bool false), .one (.bool false), .one (.string R2), .one (.int .u8 58), .one (.string ⟨#[45, 45, 84, 58, 58, 46]⟩), .one (.int .i64 3), .one (.int .u8 58), .one (.bool false), .one (.bool false)] (by kernel_rfl) (by kernel_rfl) (Ext.refl Wy).drew ?_ ?_
                  · refine stepsR_cons ?_ ?_
                    · intro vs W' hl hI hd ho
                      refine hold ?_
                      obtain ⟨x0, x1, x2, x3, x4, x5, x6, x7, x8, x9, rfl⟩ := lenlit10 hl; clear hl
                      refine held ?_
                      simp only [putAll, Act.put, List.setIfInBounds_toArray, List.set_cons_succ, List.set_cons_zero]
                      go_wp2_with fail
                      exact rely_done _ rfl rfl (Ext.refl _) hI
                    refine stepsR_cons ?_ ?_
                    · intro vs W' hl hI hd ho
                      refine hold ?_
                      obtain ⟨x0, x1, x2, x3, x4, x5, x6, x7, x8, x9, rfl⟩ := lenlit10 hl; clear hl
                      simp only [factsR, atR, List.getElem?_cons_succ, List.getElem?_cons_zero, Rel.one, Rel.blk] at hd
                      obtain ⟨rfl, -⟩ := hd
                      refine held ?_
                      simp only [putAll, Act.put, List.setIfInBounds_toArray, List.set_cons_succ, List.set_cons_zero]
                      go_wp2_with fail
                      exact rely_done _ rfl (congrArg Value.bool HEM.out) (Ext.refl _) hI
                    refine stepsR_cons ?_ ?_
                    · intro vs W' hl hI hd ho
                      refine hold ?_
                      obtain ⟨x0, x1, x2, x3, x4, x5, x6, x7, x8, x9, rfl⟩ := lenlit10 hl; clear hl
                      simp only [factsR, atR, List.getElem?_cons_succ, List.getElem?_cons_zero, Rel.one, Rel.blk] at hd
                      obtain ⟨rfl, -⟩ := hd
                      refine held ?_
                      simp only [putAll, Act.put, List.setIfInBounds_toArray, List.set_cons_succ, List.set_cons_zero]
                      go_wp2_with fail
                      exact rely_done _ rfl rfl (Ext.refl _) hI
                    refine stepsR_cons ?_ ?_
                    · intro vs W' hl hI hd ho
                      refine hold ?_
                      obtain ⟨x0, x1, x2, x3, x4, x5, x6, x7, x8, x9, rfl⟩ := lenlit10 hl; clear hl
                      simp only [factsR, atR, List.getElem?_cons_succ, List.getElem?_cons_zero, Rel.one, Rel.blk] at hd
                      obtain ⟨rfl, -⟩ := hd
                      refine held ?_
                      simp only [putAll, Act.put, List.setIfInBounds_toArray, List.set_cons_succ, List.set_cons_zero]
                      go_wp2_with fail
                      exact rely_done _ rfl rfl (Ext.refl _) hI
                    refine stepsR_cons ?_ ?_
                    · intro vs W' hl hI hd ho
                      refine hold ?_
                      obtain ⟨x0, x1, x2, x3, x4, x5, x6, x7, x8, x9, rfl⟩ := lenlit10 hl; clear hl
                      simp only [factsR, atR, List.getElem?_cons_succ, List.getElem?_cons_zero, Rel.one, Rel.blk] at hd
                      obtain ⟨rfl, rfl, -⟩ := hd
                      refine held ?_
                      simp only [putAll, Act.put, List.setIfInBounds_toArray, List.set_cons_succ, List.set_cons_zero]
                      go_wp2_with fail
                      exact rely_done _ rfl rfl (Ext.refl _) hI
                    refine stepsR_cons ?_ ?_
                    · intro vs W' hl hI hd ho
                      refine hold ?_
                      obtain ⟨x0, x1, x2, x3, x4, x5, x6, x7, x8, x9, rfl⟩ := lenlit10 hl; clear hl
                      simp only [factsR, atR, List.getElem?_cons_succ, List.getElem?_cons_zero, Rel.one, Rel.blk] at hd
                      obtain ⟨rfl, -⟩ := hd
                      refine held ?_
                      simp only [putAll, Act.put, List.setIfInBounds_toArray, List.set_cons_succ, List.set_cons_zero]
                      go_wp2_with fail
                      exact rely_done _ rfl rfl (Ext.refl _) hI
                    refine stepsR_cons ?_ ?_
                    · intro vs W' hl hI hd ho
                      refine hold ?_
                      obtain ⟨x0, x1, x2, x3, x4, x5, x6, x7, x8, x9, rfl⟩ := lenlit10 hl; clear hl
                      simp only [factsR, atR, List.getElem?_cons_succ, List.getElem?_cons_zero, Rel.one, Rel.blk] at hd
                      obtain ⟨rfl, -⟩ := hd
                      refine held ?_
                      simp only [putAll, Act.put, List.setIfInBounds_toArray, List.set_cons_succ, List.set_cons_zero]
                      go_wp2_with fail
                      exact rely_done _ rfl rfl (Ext.refl _) hI
                    refine stepsR_cons ?_ ?_
                    · intro vs W' hl hI hd ho
                      refine hold ?_
                      obtain ⟨x0, x1, x2, x3, x4, x5, x6, x7, x8, x9, rfl⟩ := lenlit10 hl; clear hl
                      simp only [factsR, atR, List.getElem?_cons_succ, List.getElem?_cons_zero, Rel.one, Rel.blk] at hd
                      obtain ⟨rfl, rfl, rfl, -⟩ := hd
                      refine held ?_
                      simp only [putAll, Act.put, List.setIfInBounds_toArray, List.set_cons_succ, List.set_cons_zero]
                      go_wp2_with fail
                      exact rely_done _ rfl rfl (Ext.refl _) hI
                    refine stepsR_cons ?_ ?_
                    · intro vs W' hl hI hd ho
                      refine hold ?_
                      obtain ⟨x0, x1, x2, x3, x4, x5, x6, x7, x8, x9, rfl⟩ := lenlit10 hl; clear hl
                      simp only [factsR, atR, List.getElem?_cons_succ, List.getElem?_cons_zero, Rel.one, Rel.blk] at hd
                      obtain ⟨rfl, rfl, rfl, -⟩ := hd
                      refine held ?_
                      simp only [putAll, Act.put, List.setIfInBounds_toArray, List.set_cons_succ, List.set_cons_zero]
                      go_wp2_with fail
                      exact rely_done _ rfl rfl (Ext.refl _) hI
                    refine stepsR_cons ?_ ?_
                    · intro vs W' hl hI hd ho
                      refine hold ?_
                      obtain ⟨x0, x1, x2, x3, x4, x5, x6, x7, x8, x9, rfl⟩ := lenlit10 hl; clear hl
                      simp only [factsR, atR, List.getElem?_cons_succ, List.getElem?_cons_zero, Rel.one, Rel.blk] at hd
                      obtain ⟨rfl, rfl, -⟩ := hd
                      refine held ?_
                      simp only [putAll, Act.put, List.setIfInBounds_toArray, List.set_cons_succ, List.set_cons_zero]
                      go_wp2_with fail
                      exact rely_done _ rfl rfl (Ext.refl _) hI
                    exact trivial
                  · intro vs W' hl hI hd
                    obtain ⟨x0, x1, x2, x3, x4, x5, x6, x7, x8, x9, rfl⟩ := lenlit10 hl; clear hl
                    simp only [List.length_cons, List.length_nil, List.range, List.range.loop, Nat.zero_add, Nat.reduceAdd, factsR, atR, List.getElem?_cons_succ, List.getElem?_cons_zero, Rel.one, Rel.blk] at hd
                    obtain ⟨rfl, rfl, rfl, rfl, rfl, rfl, rfl, rfl, rfl, rfl, -⟩ := hd
                    simp only [putAll, Act.put, List.setIfInBounds_toArray, List.set_cons_succ, List.set_cons_zero]
                    replace hx := hx.trans hI
                    go_wp2_with fail
                    exact ⟨⟨4, _, c3, by omega, by simp, rfl, rfl, by rw [HPV.out]; exact h3.ext hI, HUP2.out, hx⟩, by simp only [intOf]; omega⟩
                · have hno : Hid (fmtB l = false) := Lib.hid (fmtB_no (k := 3) (by decide) (by unfold okG; rw [decide_eq_false (show ¬ 3 = 6 by decide), HOF2.out, decide_eq_false (show ¬ nthB l 13 = sgn 3 from hs)]; simp))
                  generalize nthB l 13 = XS at *
                  have HSN := Lib.hid hs
                  clear hs
                  go_upto_region 18 with fail
                  generalize W' = Wy at *
                  refine region_rely (S := Ext) (fun Wz => Ext Wy Wz) [some 60, some 61, some 62, some 63, some 64, some 65, some 66, some 67, some 68, some 69] [[], [0], [1], [2], [2, 3], [2], [2], [2, 5, 6], [2, 4, 7], [2, 8]] [[], [], [], [], [], [], [], [], [], []] [.one (.string R2), .one (.bool false), .one (.bool false), .one (.string R2), .one (.int .u8 XS), .one (.string ⟨#[45, 45, 84, 58, 58, 46]⟩), .one (.int .i64 3), .one (.int .u8 58), .one (.bool true), .one (.bool true)] (by kernel_rfl) (by kernel_rfl) (Ext.refl Wy).drew ?_ ?_
                  · refine stepsR_cons ?_ ?_
                    · intro vs W' hl hI hd ho
                      refine hold ?_
                      obtain ⟨x0, x1, x2, x3, x4, x5, x6, x7, x8, x9, rfl⟩ := lenlit10 hl; clear hl
                      refine held ?_
                      simp only [putAll, Act.put, List.setIfInBounds_toArray, List.set_cons_succ, List.set_cons_zero]
                      go_wp2_with fail
                      exact rely_done _ rfl rfl (Ext.refl _) hI
                    refine stepsR_cons ?_ ?_
                    · intro vs W' hl hI hd ho
                      refine hold ?_
                      obtain ⟨x0, x1, x2, x3, x4, x5, x6, x7, x8, x9, rfl⟩ := lenlit10 hl; clear hl
                      simp only [factsR, atR, List.getElem?_cons_succ, List.getElem?_cons_zero, Rel.one, Rel.blk] at hd
                      obtain ⟨rfl, -⟩ := hd
                      refine held ?_
                      simp only [putAll, Act.put, List.setIfInBounds_toArray, List.set_cons_succ, List.set_cons_zero]
                      go_wp2_with fail
                      exact rely_done _ rfl (congrArg Value.bool HEM.out) (Ext.refl _) hI
                    refine stepsR_cons ?_ ?_
                    · intro vs W' hl hI hd ho
                      refine hold ?_
                      obtain ⟨x0, x1, x2, x3, x4, x5, x6, x7, x8, x9, rfl⟩ := lenlit10 hl; clear hl
                      simp only [factsR, atR, List.getElem?_cons_succ, List.getElem?_cons_zero, Rel.one, Rel.blk] at hd
                      obtain ⟨rfl, -⟩ := hd
                      refine held ?_
                      simp only [putAll, Act.put, List.setIfInBounds_toArray, List.set_cons_succ, List.set_cons_zero]
                      go_wp2_with fail
                      exact rely_done _ rfl rfl (Ext.refl _) hI
                    refine stepsR_cons ?_ ?_
                    · intro vs W' hl hI hd ho
                      refine hold ?_
                      obtain ⟨x0, x1, x2, x3, x4, x5, x6, x7, x8, x9, rfl⟩ := lenlit10 hl; clear hl
                      simp only [factsR, atR, List.getElem?_cons_succ, List.getElem?_cons_zero, Rel.one, Rel.blk] at hd
                      obtain ⟨rfl, -⟩ := hd
                      refine held ?_
                      simp only [putAll, Act.put, List.setIfInBounds_toArray, List.set_cons_succ, List.set_cons_zero]
                      go_wp2_with fail
                      exact rely_done _ rfl rfl (Ext.refl _) hI
                    refine stepsR_cons ?_ ?_
                    · intro vs W' hl hI hd ho
                      refine hold ?_
                      obtain ⟨x0, x1, x2, x3, x4, x5, x6, x7, x8, x9, rfl⟩ := lenlit10 hl; clear hl
                      simp only [factsR, atR, List.getElem?_cons_succ, List.getElem?_cons_zero, Rel.one, Rel.blk] at hd
                      obtain ⟨rfl, rfl, -⟩ := hd
                      refine held ?_
                      simp only [putAll, Act.put, List.setIfInBounds_toArray, List.set_cons_succ, List.set_cons_zero]
                      go_wp2_with fail
                      exact rely_done _ rfl rfl (Ext.refl _) hI
                    refine stepsR_cons ?_ ?_
                    · intro vs W' hl hI hd ho
                      refine hold ?_
                      obtain ⟨x0, x1, x2, x3, x4, x5, x6, x7, x8, x9, rfl⟩ := lenlit10 hl; clear hl
                      simp only [factsR, atR, List.getElem?_cons_succ, List.getElem?_cons_zero, Rel.one, Rel.blk] at hd
                      obtain ⟨rfl, -⟩ := hd
                      refine held ?_
                      simp only [putAll, Act.put, List.setIfInBounds_toArray, List.set_cons_succ, List.set_cons_zero]
                      go_wp2_with fail
                      exact rely_done _ rfl rfl (Ext.refl _) hI
                    refine stepsR_cons ?_ ?_
                    · intro vs W' hl hI hd ho
                      refine hold ?_
                      obtain ⟨x0, x1, x2, x3, x4, x5, x6, x7, x8, x9, rfl⟩ := lenlit10 hl; clear hl
                      simp only [factsR, atR, List.getElem?_cons_succ, List.getElem?_cons_zero, Rel.one, Rel.blk] at hd
                      obtain ⟨rfl, -⟩ := hd
                      refine held ?_
                      simp only [putAll, Act.put, List.setIfInBounds_toArray, List.set_cons_succ, List.set_cons_zero]
                      go_wp2_with fail
                      exact rely_done _ rfl rfl (Ext.refl _) hI
                    refine stepsR_cons ?_ ?_
                    · intro vs W' hl hI hd ho
                      refine hold ?_
                      obtain ⟨x0, x1, x2, x3, x4, x5, x6, x7, x8, x9, rfl⟩ := lenlit10 hl; clear hl
                      simp only [factsR, atR, List.getElem?_cons_succ, List.getElem?_cons_zero, Rel.one, Rel.blk] at hd
                      obtain ⟨rfl, rfl, rfl, -⟩ := hd
                      refine held ?_
                      simp only [putAll, Act.put, List.setIfInBounds_toArray, List.set_cons_succ, List.set_cons_zero]
                      go_wp2_with fail
                      exact rely_done _ rfl rfl (Ext.refl _) hI
                    refine stepsR_cons ?_ ?_
                    · intro vs W' hl hI hd ho
                      refine hold ?_
                      obtain ⟨x0, x1, x2, x3, x4, x5, x6, x7, x8, x9, rfl⟩ := lenlit10 hl; clear hl
                      simp only [factsR, atR, List.getElem?_cons_succ, List.getElem?_cons_zero, Rel.one, Rel.blk] at hd
                      obtain ⟨rfl, rfl, rfl, -⟩ := hd
                      refine held ?_
                      simp only [putAll, Act.put, List.setIfInBounds_toArray, List.set_cons_succ, List.set_cons_zero]
                      go_wp2_with fail
                      exact rely_done _ rfl (congrArg Value.bool (bne_iff_ne.2 HSN.out)) (Ext.refl _) hI
                    refine stepsR_cons ?_ ?_
                    · intro vs W' hl hI hd ho
                      refine hold ?_
                      obtain ⟨x0, x1, x2, x3, x4, x5, x6, x7, x8, x9, rfl⟩ := lenlit10 hl; clear hl
                      simp only [factsR, atR, List.getElem?_cons_succ, List.getElem?_cons_zero, Rel.one, Rel.blk] at hd
                      obtain ⟨rfl, rfl, -⟩ := hd
                      refine held ?_
                      simp only [putAll, Act.put, List.setIfInBounds_toArray, List.set_cons_succ, List.set_cons_zero]
                      go_wp2_with fail
                      exact rely_done _ rfl rfl (Ext.refl _) hI
                    exact trivial
                  · intro vs W' hl hI hd
                    obtain ⟨x0, x1, x2, x3, x4, x5, x6, x7, x8, x9, rfl⟩ := lenlit10 hl; clear hl
                    simp only [List.length_cons, List.length_nil, List.range, List.range.loop, Nat.zero_add, Nat.reduceAdd, factsR, atR, List.getElem?_cons_succ, List.getElem?_cons_zero, Rel.one, Rel.blk] at hd
                    obtain ⟨rfl, rfl, rfl, rfl, rfl, rfl, rfl, rfl, rfl, rfl, -⟩ := hd
                    simp only [putAll, Act.put, List.setIfInBounds_toArray, List.set_cons_succ, List.set_cons_zero]
                    replace hx := hx.trans hI
                    go_wp2_with fail
                    (try rw [Exit.noGoto_ret])
                    go_ret2
                    exact ⟨none, 0, 0, false, rfl, hx, hno.out.symm, fun h => by cases h⟩
              · have hno : Hid (fmtB l = false) := Lib.hid (fmtB_no (k := 3) (by decide) (by unfold okG; rw [decide_eq_false (show ¬ 3 = 6 by decide), HOF2.out, decide_eq_false hne]; simp))
                have hemp : (mkS (l.drop 13)).toList.isEmpty = true := by
                  rw [HXT.out, List.drop_of_length_le (by omega)]; rfl
                clear hRZ2 HXA HXB HXT
                generalize mkS (l.drop 13) = R2 at *
                have HEM := Lib.hid hemp
                clear hemp
                go_upto_region 18 with fail
                generalize W' = Wy at *
                refine region_rely (S := Ext) (fun Wz => Ext Wy Wz) [some 60, some 61, some 62, some 63, some 64, some 65, some 66, some 67, some 68, some 69] [[], [0], [1], [2], [2, 3], [2], [2], [2, 5, 6], [2, 4, 7], [2, 8]] [[], [], [], [], [], [], [], [], [], []] [.one (.string R2), .one (.bool true), .one (.bool true), .one (undef), .one (undef), .one (undef), .one (undef), .one (undef), .one (undef), .one (.bool true)] (by kernel_rfl) (by kernel_rfl) (Ext.refl Wy).drew ?_ ?_
                · refine stepsR_cons ?_ ?_
                  · intro vs W' hl hI hd ho
                    refine hold ?_
                    obtain ⟨x0, x1, x2, x3, x4, x5, x6, x7, x8, x9, rfl⟩ := lenlit10 hl; clear hl
                    refine held ?_
                    simp only [putAll, Act.put, List.setIfInBounds_toArray, List.set_cons_succ, List.set_cons_zero]
                    go_wp2_with fail
                    exact rely_done _ rfl rfl (Ext.refl _) hI
                  refine stepsR_cons ?_ ?_
                  · intro vs W' hl hI hd ho
                    refine hold ?_
                    obtain ⟨x0, x1, x2, x3, x4, x5, x6, x7, x8, x9, rfl⟩ := lenlit10 hl; clear hl
                    simp only [factsR, atR, List.getElem?_cons_succ, List.getElem?_cons_zero, Rel.one, Rel.blk] at hd
                    obtain ⟨rfl, -⟩ := hd
                    refine held ?_
                    simp only [putAll, Act.put, List.setIfInBounds_toArray, List.set_cons_succ, List.set_cons_zero]
                    go_wp2_with fail
                    exact rely_done _ rfl (congrArg Value.bool HEM.out) (Ext.refl _) hI
                  refine stepsR_cons ?_ ?_
                  · intro vs W' hl hI hd ho
                    refine hold ?_
                    obtain ⟨x0, x1, x2, x3, x4, x5, x6, x7, x8, x9, rfl⟩ := lenlit10 hl; clear hl
                    simp only [factsR, atR, List.getElem?_cons_succ, List.getElem?_cons_zero, Rel.one, Rel.blk] at hd
                    obtain ⟨rfl, -⟩ := hd
                    refine held ?_
                    simp only [putAll, Act.put, List.setIfInBounds_toArray, List.set_cons_succ, List.set_cons_zero]
                    go_wp2_with fail
                    exact rely_done _ rfl rfl (Ext.refl _) hI
                  refine stepsR_cons ?_ ?_
                  · intro vs W' hl hI hd ho
                    refine hold ?_
                    obtain ⟨x0, x1, x2, x3, x4, x5, x6, x7, x8, x9, rfl⟩ := lenlit10 hl; clear hl
                    simp only [factsR, atR, List.getElem?_cons_succ, List.getElem?_cons_zero, Rel.one, Rel.blk] at hd
                    obtain ⟨rfl, -⟩ := hd
                    refine held ?_
                    simp only [putAll, Act.put, List.setIfInBounds_toArray, List.set_cons_succ, List.set_cons_zero]
                    skip
                    exact rely_undef (by rfl) rfl rfl (Ext.refl _) hI
                  refine stepsR_cons ?_ ?_
                  · intro vs W' hl hI hd ho
                    refine hold ?_
                    obtain ⟨x0, x1, x2, x3, x4, x5, x6, x7, x8, x9, rfl⟩ := lenlit10 hl; clear hl
                    simp only [factsR, atR, List.getElem?_cons_succ, List.getElem?_cons_zero, Rel.one, Rel.blk] at hd
                    obtain ⟨rfl, rfl, -⟩ := hd
                    refine held ?_
                    simp only [putAll, Act.put, List.setIfInBounds_toArray, List.set_cons_succ, List.set_cons_zero]
                    skip
                    exact rely_undef (by rfl) rfl rfl (Ext.refl _) hI
                  refine stepsR_cons ?_ ?_
                  · intro vs W' hl hI hd ho
                    refine hold ?_
                    obtain ⟨x0, x1, x2, x3, x4, x5, x6, x7, x8, x9, rfl⟩ := lenlit10 hl; clear hl
                    simp only [factsR, atR, List.getElem?_cons_succ, List.getElem?_cons_zero, Rel.one, Rel.blk] at hd
                    obtain ⟨rfl, -⟩ := hd
                    refine held ?_
                    simp only [putAll, Act.put, List.setIfInBounds_toArray, List.set_cons_succ, List.set_cons_zero]
                    skip
                    exact rely_undef (by rfl) rfl rfl (Ext.refl _) hI
                  refine stepsR_cons ?_ ?_
                  · intro vs W' hl hI hd ho
                    refine hold ?_
                    obtain ⟨x0, x1, x2, x3, x4, x5, x6, x7, x8, x9, rfl⟩ := lenlit10 hl; clear hl
                    simp only [factsR, atR, List.getElem?_cons_succ, List.getElem?_cons_zero, Rel.one, Rel.blk] at hd
                    obtain ⟨rfl, -⟩ := hd
                    refine held ?_
                    simp only [putAll, Act.put, List.setIfInBounds_toArray, List.set_cons_succ, List.set_cons_zero]
                    skip
                    exact rely_undef (by rfl) rfl rfl (Ext.refl _) hI
                  refine stepsR_cons ?_ ?_
                  · intro vs W' hl hI hd ho
                    refine hold ?_
                    obtain ⟨x0, x1, x2, x3, x4, x5, x6, x7, x8, x9, rfl⟩ := lenlit10 hl; clear hl
                    simp only [factsR, atR, List.getElem?_cons_succ, List.getElem?_cons_zero, Rel.one, Rel.blk] at hd
                    obtain ⟨rfl, rfl, rfl, -⟩ := hd
                    refine held ?_
                    simp only [putAll, Act.put, List.setIfInBounds_toArray, List.set_cons_succ, List.set_cons_zero]
                    skip
                    exact rely_undef (by rfl) rfl rfl (Ext.refl _) hI
                  refine stepsR_cons ?_ ?_
                  · intro vs W' hl hI hd ho
                    refine hold ?_
                    obtain ⟨x0, x1, x2, x3, x4, x5, x6, x7, x8, x9, rfl⟩ := lenlit10 hl; clear hl
                    simp only [factsR, atR, List.getElem?_cons_succ, List.getElem?_cons_zero, Rel.one, Rel.blk] at hd
                    obtain ⟨rfl, rfl, rfl, -⟩ := hd
                    refine held ?_
                    simp only [putAll, Act.put, List.setIfInBounds_toArray, List.set_cons_succ, List.set_cons_zero]
                    skip
                    exact rely_undef (by rfl) rfl rfl (Ext.refl _) hI
                  refine stepsR_cons ?_ ?_
                  · intro vs W' hl hI hd ho
                    refine hold ?_
                    obtain ⟨x0, x1, x2, x3, x4, x5, x6, x7, x8, x9, rfl⟩ := lenlit10 hl; clear hl
                    simp only [factsR, atR, List.getElem?_cons_succ, List.getElem?_cons_zero, Rel.one, Rel.blk] at hd
                    obtain ⟨rfl, rfl, -⟩ := hd
                    refine held ?_
                    simp only [putAll, Act.put, List.setIfInBounds_toArray, List.set_cons_succ, List.set_cons_zero]
                    go_wp2_with fail
                    exact rely_done _ rfl rfl (Ext.refl _) hI
                  exact trivial
                · intro vs W' hl hI hd
                  obtain ⟨x0, x1, x2, x3, x4, x5, x6, x7, x8, x9, rfl⟩ := lenlit10 hl; clear hl
                  simp only [List.length_cons, List.length_nil, List.range, List.range.loop, Nat.zero_add, Nat.reduceAdd, factsR, atR, List.getElem?_cons_succ, List.getElem?_cons_zero, Rel.one, Rel.blk] at hd
                  obtain ⟨rfl, rfl, rfl, rfl, rfl, rfl, rfl, rfl, rfl, rfl, -⟩ := hd
                  simp only [putAll, Act.put, List.setIfInBounds_toArray, List.set_cons_succ, List.set_cons_zero]
                  replace hx := hx.trans hI
                  go_wp2_with fail
                  (try rw [Exit.noGoto_ret])
                  go_ret2
                  exact ⟨none, 0, 0, false, rfl, hx, hno.out.symm, fun h => by cases h⟩
      · have hno : Hid (fmtB l = false) := Lib.hid (fmtB_no (k := 3) (by decide) (by unfold okG; rw [HOF.out]; rw [decide_eq_false (by rw [HWD.out]; exact hlen)]; rfl))
        have q1 : (RZ : Int) < 2 := by omega
        generalize mkS (l.drop 11) = R at *
        clear hX1 hX2 hR0
        go_wp2_with fail
        (try rw [Exit.noGoto_ret])
        go_ret2
        exact ⟨none, 0, 0, false, rfl, hx, hno.out.symm, fun h => by cases h⟩
    · have p := hdr.c 4 _ rfl
      have hof : off 4 = 14 := rfl
      have HOF := Lib.hid hof
      have hwd : wid 4 = 2 := rfl
      have HWD := Lib.hid hwd
      rw [hof]
      obtain ⟨RZ, hRZ⟩ : ∃ RZ, l.length - 14 = RZ := ⟨_, rfl⟩
      have hRz : (mkS (l.drop 14)).size = RZ := by rw [mkS_size, List.length_drop, hRZ]
      have hX1 : (mkS (l.drop 14)).extract 0 2 = mkS ((l.drop 14).take 2) := by rw [mkS_extract]; simp
      have hX2 : (mkS (l.drop 14)).extract 2 RZ = mkS (l.drop 16) := by
        rw [mkS_extract, List.drop_drop, List.take_of_length_le (by rw [List.length_drop]; omega)]
      by_cases hlen : 14 + 2 ≤ l.length
      · have q1 : (2 : Int) ≤ (RZ : Int) := by omega
        have q2 : ¬ ((RZ : Int) < 2) := by omega
        have hGs : (mkS ((l.drop 14).take 2)).size = 2 := by rw [mkS_size, List.length_take, List.length_drop]; omega
        have hcv := run_bytes_of_string (P := Tryd.prog) wr 9 66 5 (mkS ((l.drop 14).take 2)) (by kernel_rfl) (by kernel_rfl) (by kernel_rfl)
        rw [hGs] at hcv
        have hbc : ∀ j, j < 2 → (wr.drew.alloc (.cells (bytesRow (mkS ((l.drop 14).take 2)) (grownCap wr 2 0 5)) 5 ((bytesRow (mkS ((l.drop 14).take 2)) (grownCap wr 2 0 5)).size, (bytesRow (mkS ((l.drop 14).take 2)) (grownCap wr 2 0 5)).size + 1))).cell? ⟨wr.heap.size, j, none⟩ = some (.int .u8 (nthB l (14 + j))) := fun j hj => by
          rw [← nthB_drop l 14 j, ← nthB_take (l.drop 14) 2 j hj]
          exact bytes_cell wr.drew _ _ _ _ j (by rw [List.length_take, List.length_drop]; omega)
        have hEc : Ext wr (wr.drew.alloc (.cells (bytesRow (mkS ((l.drop 14).take 2)) (grownCap wr 2 0 5)) 5 ((bytesRow (mkS ((l.drop 14).take 2)) (grownCap wr 2 0 5)).size, (bytesRow (mkS ((l.drop 14).take 2)) (grownCap wr 2 0 5)).size + 1))) := (Ext.refl wr).drew.alloc _
        generalize wr.drew.alloc (.cells (bytesRow (mkS ((l.drop 14).take 2)) (grownCap wr 2 0 5)) 5 ((bytesRow (mkS ((l.drop 14).take 2)) (grownCap wr 2 0 5)).size, (bytesRow (mkS ((l.drop 14).take 2)) (grownCap wr 2 0 5)).size + 1)) = W1 at *
        generalize grownCap wr 2 0 5 = CP at *
        generalize hGG : mkS ((l.drop 14).take 2) = GG at *
        clear hGG
        have HBC := Lib.hid hbc
        have HLEN := Lib.hid hlen
        have HX2 := Lib.hid hX2
        have HRZ := Lib.hid hRZ
        have hbl : wr.heap.size = wr.heap.size := rfl
        obtain ⟨bb, hbb⟩ : ∃ bb, wr.heap.size = bb := ⟨_, rfl⟩
        rw [hbb] at hcv HBC
        clear hbc hlen hX2 hR0 hbl hbb
        generalize mkS (l.drop 14) = R at *
        go_wp2_with fail
        go_loopw [12, 32] (fun nn j wq => ∃ (i : Nat), i ≤ 2 ∧ j = .int .i64 (i : Int) ∧ nn = .int .i64 (numB l 14 i) ∧ allB l 14 i = true ∧ Ext W1 wq) (fun _ j _ => 2 - (intOf j).toNat)
        case atStart => exact ⟨0, by omega, rfl, rfl, rfl, Ext.refl _⟩
        case round =>
          obtain ⟨i, hi, rfl, rfl, hal, hy⟩ := hrel
          have hEq := hEc.trans hy
          have HAL := Lib.hid hal
          have hnb := numB_bd hal
          have hpow : (10 : Int) ^ i ≤ 1000000 := by
            have := Nat.pow_le_pow_right (show 0 < 10 by decide) (show i ≤ 6 by omega)
            have h2 : ((10 ^ i : Nat) : Int) ≤ ((10 ^ 6 : Nat) : Int) := by exact_mod_cast this
            simpa using h2
          have hnb2 : 0 ≤ numB l 14 i ∧ numB l 14 i < 1000000 := by omega
          clear hal hnb hpow
          by_cases hlt2 : i < 2
          · have c8 := hy.cell (HBC.out i hlt2)
            have HNS : Hid (numB l 14 (i + 1) = 10 * numB l 14 i + (nthB l (14 + i) - 48)) := Lib.hid rfl
            have hbb2 := nthB_bd l (14 + i)
            have HAS : Hid (digB (nthB l (14 + i)) = true → allB l 14 (i + 1) = true) := Lib.hid (fun h => by simp only [allB]; rw [HAL.out, h]; rfl)
            have HAN : Hid (digB (nthB l (14 + i)) = false → allB l 14 2 = false) := Lib.hid (fun h => allB_not hlt2 h)
            generalize numB l 14 i = NN at *
            generalize nthB l (14 + i) = XB at *
            by_cases hd1 : 48 ≤ XB
            · by_cases hd2 : XB ≤ 57
              · have hd1' : ¬ XB < 48 := by omega
                have hd2' : ¬ 57 < XB := by omega
                have HDG := Lib.hid (HAS.out (digB_iff.2 ⟨hd1, hd2⟩))
                go_wp2_with fail
                exact ⟨⟨i + 1, by omega, by go_num, by rw [HNS.out], HDG.out, hy⟩, by simp only [intOf]; omega⟩
              · have hd2' : 57 < XB := by omega
                have hd1' : ¬ XB < 48 := by omega
                have hf := HAN.out (by rw [Bool.eq_false_iff]; exact fun h => hd2 (digB_iff.1 h).2)
                have hno : Hid (fmtB l = false) := Lib.hid (fmtB_no (k := 4) (by decide) (by unfold okG; rw [HOF.out]; rw [HWD.out, hf]; simp))
                clear hf
                go_wp2_with fail
                (try rw [Exit.noGoto_ret])
                go_ret2
                exact ⟨none, 0, 0, false, rfl, hx.trans hEq, hno.out.symm, fun h => by cases h⟩
            · have hd1' : XB < 48 := by omega
              have hf := HAN.out (by rw [Bool.eq_false_iff]; exact fun h => hd1 (digB_iff.1 h).1)
              have hno : Hid (fmtB l = false) := Lib.hid (fmtB_no (k := 4) (by decide) (by unfold okG; rw [HOF.out]; rw [HWD.out, hf]; simp))
              clear hf
              go_wp2_with fail
              (try rw [Exit.noGoto_ret])
              go_ret2
              exact ⟨none, 0, 0, false, rfl, hx.trans hEq, hno.out.symm, fun h => by cases h⟩
          · obtain rfl : i = 2 := by omega
            have hNV : valB l 4 = numB l 14 2 := rfl
            have hPV : valsB l 5 = valsB l 4 ++ [valB l 4] := rfl
            rw [hNV] at hPV
            have HPV := Lib.hid hPV
            clear hNV hPV
            have ho2 := ho.ext hEq
            have hxq := hx.trans hEq
            generalize numB l 14 2 = NV at *
            generalize valsB l 4 = PV at *
            have hwNV : (Lit.int .i64 NV).wf = true := wfi (by omega) (by omega)
            have hX2 := HX2.out
            go_upto_region 16 with fail
            have hEz := hxq
            have HOKW : Hid (allB l (off 4) (wid 4) = true ∧ off 4 + wid 4 ≤ l.length) := Lib.hid ⟨HAL.out, HLEN.out⟩
            clear hxq hEq hy hEc hx hcv HBC HAL hdr p q2
            have hoZ := ho2
            have hB0 := hEz.sz
            clear ho2 ho
            generalize wr = Vz at *
            refine region_relyF (fun listed W' => Ext w W' ∧ (listed 3 = false → Ext Vz W')) [some 49, some 50, some 51, some 52, some 53, some 54, some 55, some 8, some 9] [[], [], [1], [0, 1, 2], [], [], [4, 5], [0, 1, 2, 3], [0, 1, 2, 3, 4, 5, 6, 7]] [[], [], [1], [0, 2], [], [], [4, 5], [3], [6]] [none, none, none, none, none, none, none, some 3, none] [false, false, false, false, false, false, false, false, false] [.one (.slice aa 4 cc), .one (.int .i64 NV), RLi Vz.heap.size #[.int .i64 NV], RNi w.heap.size 5 (PV ++ [NV]), .one (.string R), .one (.int .i64 2), .one (.string (mkS (l.drop 16))), RSm 3, .one (.string (mkS (l.drop 16)))] (by kernel_rfl) (by kernel_rfl) rfl ⟨hEz.drew, fun _ => (Ext.refl Vz).drew⟩ ?_ ?_
            · refine stepsF_cons ?_ ?_
              · intro listed vs W' hl hI hd hs hn hu hz ho9
                refine hold ?_
                obtain ⟨x0, x1, x2, x3, x4, x5, x6, x7, x8, rfl⟩ := lenlit9 hl; clear hl
                refine held ?_
                simp only [putAll, Act.put, List.setIfInBounds_toArray, List.set_cons_succ, List.set_cons_zero]
                have h7z : listed 7 = false := by cases h : listed 7 with | false => rfl | true => exact absurd (by decide) (hu 7 h)
                obtain rfl : x7 = .slice aa 4 cc := ho9 7 (some 8) x7 h7z rfl rfl
                go_wp2_with fail
                exact relyE_done _ rfl rfl (Ext.refl _) ⟨hI.1, fun h => hI.2 (updE_false h)⟩
              refine stepsF_cons ?_ ?_
              · intro listed vs W' hl hI hd hs hn hu hz ho9
                refine hold ?_
                obtain ⟨x0, x1, x2, x3, x4, x5, x6, x7, x8, rfl⟩ := lenlit9 hl; clear hl
                refine held ?_
                simp only [putAll, Act.put, List.setIfInBounds_toArray, List.set_cons_succ, List.set_cons_zero]
                go_wp2_with fail
                exact relyE_done _ rfl rfl (Ext.refl _) ⟨hI.1, fun h => hI.2 (updE_false h)⟩
              refine stepsF_cons ?_ ?_
              · intro listed vs W' hl hI hd hs hn hu hz ho9
                refine hold ?_
                obtain ⟨x0, x1, x2, x3, x4, x5, x6, x7, x8, rfl⟩ := lenlit9 hl; clear hl
                simp only [factsL, atL, refV, List.getElem?_cons_succ, List.getElem?_cons_zero, List.getD_cons_succ, List.getD_cons_zero, RelL.one, RelL.any, RelL.blk, RelL.law, RNi, RLi, RSm] at hd
                obtain ⟨rfl, -⟩ := hd
                refine held ?_
                simp only [putAll, Act.put, List.setIfInBounds_toArray, List.set_cons_succ, List.set_cons_zero]
                go_wp2_with fail
                have h3z : listed 3 = false := by cases h : listed 3 with | false => rfl | true => exact absurd (by decide) (hu 3 h)
                exact relyE_done _ rfl ⟨_, rfl, (hI.2 h3z).sz, World.alloc_heap_new _ _⟩ ((Ext.refl _).alloc _) ⟨hI.1.alloc _, fun h => (hI.2 (updE_false h)).alloc _⟩
              refine stepsF_cons ?_ ?_
              · intro listed vs W' hl hI hd hs hn hu hz ho9
                refine hold ?_
                obtain ⟨x0, x1, x2, x3, x4, x5, x6, x7, x8, rfl⟩ := lenlit9 hl; clear hl
                simp only [factsL, atL, refV, List.getElem?_cons_succ, List.getElem?_cons_zero, List.getD_cons_succ, List.getD_cons_zero, RelL.one, RelL.any, RelL.blk, RelL.law, RNi, RLi, RSm] at hd
                obtain ⟨rfl, ⟨b2, rfl, hb2, hB2⟩, -⟩ := hd
                refine held ?_
                simp only [putAll, Act.put, List.setIfInBounds_toArray, List.set_cons_succ, List.set_cons_zero]
                have hz2 := hI.2 hz
                have hbz : w.heap.size ≤ W'.heap.size := by have := hz2.sz; have := hB0; omega
                have ho2 := hoZ.ext hz2
                have hlit : Sl .i64 W' (some ⟨b2, 0, none⟩) 1 1 [NV] := lit_of_block (E := 3) hB2 hwNV
                go_wp2_with (at_builtin; refine appSg el_i64 rfl _ _ rfl _ w.heap.size _ _ _ _ rfl ho2 _ _ _ _ rfl hlit (by omega) hbz (by unfold maxLen; omega) (by omega) ?_; intro g3 c3 w3 hop hB hg; refine hold ?_)
                refine held ?_
                exact wpList_nil (relyE_store _ rfl ⟨_, _, rfl, hop⟩ hB.size ⟨fun _ _ h => h, fun _ _ h => h, fun _ _ ⟨b, e1, e2, e3⟩ => ⟨b, e1, e2, (hg.block b (Array.getElem?_eq_some_iff.1 e3).1 (fun e => Nat.lt_irrefl _ (Nat.lt_of_lt_of_le (World.ownsRow.lt hoZ b e.symm).2 e2))).trans e3⟩, fun _ hk _ => absurd rfl hk, fun _ _ h => h, fun _ _ h => h, fun _ _ h => h, fun _ _ h => h, fun _ _ h => h, trivial⟩ ⟨Below.trans hI.1 hB, fun h => by simp [updE] at h⟩)
              refine stepsF_cons ?_ ?_
              · intro listed vs W' hl hI hd hs hn hu hz ho9
                refine hold ?_
                obtain ⟨x0, x1, x2, x3, x4, x5, x6, x7, x8, rfl⟩ := lenlit9 hl; clear hl
                refine held ?_
                simp only [putAll, Act.put, List.setIfInBounds_toArray, List.set_cons_succ, List.set_cons_zero]
                have h7z : listed 8 = false := by cases h : listed 8 with | false => rfl | true => exact absurd (by decide) (hu 8 h)
                obtain rfl : x8 = .string R := ho9 8 (some 9) x8 h7z rfl rfl
                go_wp2_with fail
                exact relyE_done _ rfl rfl (Ext.refl _) ⟨hI.1, fun h => hI.2 (updE_false h)⟩
              refine stepsF_cons ?_ ?_
              · intro listed vs W' hl hI hd hs hn hu hz ho9
                refine hold ?_
                obtain ⟨x0, x1, x2, x3, x4, x5, x6, x7, x8, rfl⟩ := lenlit9 hl; clear hl
                refine held ?_
                simp only [putAll, Act.put, List.setIfInBounds_toArray, List.set_cons_succ, List.set_cons_zero]
                go_wp2_with fail
                exact relyE_done _ rfl rfl (Ext.refl _) ⟨hI.1, fun h => hI.2 (updE_false h)⟩
              refine stepsF_cons ?_ ?_
              · intro listed vs W' hl hI hd hs hn hu hz ho9
                refine hold ?_
                obtain ⟨x0, x1, x2, x3, x4, x5, x6, x7, x8, rfl⟩ := lenlit9 hl; clear hl
                simp only [factsL, atL, refV, List.getElem?_cons_succ, List.getElem?_cons_zero, List.getD_cons_succ, List.getD_cons_zero, RelL.one, RelL.any, RelL.blk, RelL.law, RNi, RLi, RSm] at hd
                obtain ⟨rfl, rfl, -⟩ := hd
                refine held ?_
                simp only [putAll, Act.put, List.setIfInBounds_toArray, List.set_cons_succ, List.set_cons_zero]
                go_wp2_with fail
                exact relyE_done _ rfl rfl (Ext.refl _) ⟨hI.1, fun h => hI.2 (updE_false h)⟩
              refine stepsF_cons ?_ ?_
              · intro listed vs W' hl hI hd hs hn hu hz ho9
                refine hold ?_
                obtain ⟨x0, x1, x2, x3, x4, x5, x6, x7, x8, rfl⟩ := lenlit9 hl; clear hl
                simp only [factsL, atL, refV, List.getElem?_cons_succ, List.getElem?_cons_zero, List.getD_cons_succ, List.getD_cons_zero, RelL.one, RelL.any, RelL.blk, RelL.law, RNi, RLi, RSm] at hd
                obtain ⟨⟨g3, c3, rfl, h3⟩, -⟩ := hd
                refine held ?_
                simp only [putAll, Act.put, List.setIfInBounds_toArray, List.set_cons_succ, List.set_cons_zero]
                go_wp2_with fail
                exact relyE_done _ rfl rfl (Ext.refl _) ⟨hI.1, fun h => hI.2 (updE_false h)⟩
              refine stepsF_cons ?_ ?_
              · intro listed vs W' hl hI hd hs hn hu hz ho9
                refine hold ?_
                obtain ⟨x0, x1, x2, x3, x4, x5, x6, x7, x8, rfl⟩ := lenlit9 hl; clear hl
                simp only [factsL, atL, refV, List.getElem?_cons_succ, List.getElem?_cons_zero, List.getD_cons_succ, List.getD_cons_zero, RelL.one, RelL.any, RelL.blk, RelL.law, RNi, RLi, RSm] at hd
                obtain ⟨rfl, -⟩ := hd
                refine held ?_
                simp only [putAll, Act.put, List.setIfInBounds_toArray, List.set_cons_succ, List.set_cons_zero]
                go_wp2_with fail
                exact relyE_done _ rfl rfl (Ext.refl _) ⟨hI.1, fun h => hI.2 (updE_false h)⟩
              exact trivial
            · intro listed vs W' hl hall hI hd hn
              obtain ⟨x0, x1, x2, x3, x4, x5, x6, x7, x8, rfl⟩ := lenlit9 hl; clear hl
              simp only [List.length_cons, List.length_nil, List.range, List.range.loop, Nat.zero_add, Nat.reduceAdd, factsL, atL, refV, List.getElem?_cons_succ, List.getElem?_cons_zero, List.getD_cons_succ, List.getD_cons_zero, RelL.one, RelL.any, RelL.blk, RelL.law, RNi, RLi, RSm] at hd
              obtain ⟨rfl, rfl, -, ⟨g3, c3, rfl, h3⟩, rfl, rfl, rfl, rfl, rfl, -⟩ := hd
              simp only [putAll, Act.put, List.setIfInBounds_toArray, List.set_cons_succ, List.set_cons_zero]
              have hx := hI.1
              have hof2 : off 4 + wid 4 = 16 := rfl
              have HOF2 := Lib.hid hof2
              have hofn : off 5 = 17 := rfl
              have HOFN := Lib.hid hofn
              clear hof2 hofn hI hn hX2
              obtain ⟨RZ2, hRZ2⟩ : ∃ RZ2, l.length - 16 = RZ2 := ⟨_, rfl⟩
              have HXA := Lib.hid (show (mkS (l.drop 16)).size = RZ2 by rw [mkS_size, List.length_drop, hRZ2])
              have HXB := Lib.hid (show (mkS (l.drop 16)).extract 1 RZ2 = mkS (l.drop 17) by rw [mkS_extract, List.drop_drop, List.take_of_length_le (by rw [List.length_drop]; omega)])
              have HXT := Lib.hid (mkS_toList (l.drop 16))
              by_cases hne : 16 < l.length
              · have hemp : (mkS (l.drop 16)).toList.isEmpty = false := by
                  rw [HXT.out]
                  have : l.drop 16 ≠ [] := fun h => by have := congrArg List.length h; rw [List.length_drop] at this; simp at this; omega
                  cases h : l.drop 16 with
                  | nil => exact absurd h this
                  | cons a b => rfl
                have hix : ∀ W : World, (Instr.index 9 (.string (mkS (l.drop 16))) (.int .i64 0)).run Tryd.prog W = .ok (.int .u8 (nthB l 16)) W := fun W => by
                  have := index_mkS (l.drop 16) 0 (by rw [List.length_drop]; omega) 9 (by kernel_rfl) W
                  rw [nthB_drop] at this
                  exact this
                have q3 : (1 : Int) ≤ (RZ2 : Int) := by omega
                have HNE := Lib.hid hne
                have hXA := HXA.out
                have hXB := HXB.out
                clear hne hRZ2 HXA HXB HXT
                generalize mkS (l.drop 16) = R2 at *
                have HEM := Lib.hid hemp
                clear hemp
                by_cases hs : nthB l 16 = 58
                · have HS := Lib.hid hs
                  have HUP2 : Hid (okUp l 5 = true) := Lib.hid (by show (okUp l 4 && okG l 4) = true; rw [HUP.out]; unfold okG; rw [HOKW.out.1, decide_eq_true HOKW.out.2, HOF2.out, decide_eq_true HNE.out, decide_eq_true (show nthB l 16 = sgn 4 from HS.out)]; simp)
                  generalize nthB l 16 = XS at *
                  subst hs
                  go_upto_region 18 with fail
                  generalize W' = Wy at *
                  refine region_rely (S := Ext) (fun Wz => Ext Wy Wz) [some 60, some 61, some 62, some 63, some 64, some 65, some 66, some 67, some 68, some 69] [[], [0], [1], [2], [2, 3], [2], [2], [2, 5, 6], [2, 4, 7], [2, 8]] [[], [], [], [], [], [], [], [], [], []] [.one (.string R2), .one (.bool false), .one (.bool false), .one (.string R2), .one (.int .u8 58), .one (.string ⟨#[45, 45, 84, 58, 58, 46]⟩), .one (.int .i64 4), .one (.int .u8 58), .one (.bool false), .one (.bool false)] (by kernel_rfl) (by kernel_rfl) (Ext.refl Wy).drew ?_ ?_
                  · refine stepsR_cons ?_ ?_
                    · intro vs W' hl hI hd ho
                      refine hold ?_
                      obtain ⟨x0, x1, x2, x3, x4, x5, x6, x7, x8, x9, rfl⟩ := lenlit10 hl; clear hl
                      refine held ?_
                      simp only [putAll, Act.put, List.setIfInBounds_toArray, List.set_cons_succ, List.set_cons_zero]
                      go_wp2_with fail
                      exact rely_done _ rfl rfl (Ext.refl _) hI
                    refine stepsR_cons ?_ ?_
                    · intro vs W' hl hI hd ho
                      refine hold ?_
                      obtain ⟨x0, x1, x2, x3, x4, x5, x6, x7, x8, x9, rfl⟩ := lenlit10 hl; clear hl
                      simp only [factsR, atR, List.getElem?_cons_succ, List.getElem?_cons_zero, Rel.one, Rel.blk] at hd
                      obtain ⟨rfl, -⟩ := hd
                      refine held ?_
                      simp only [putAll, Act.put, List.setIfInBounds_toArray, List.set_cons_succ, List.set_cons_zero]
                      go_wp2_with fail
                      exact rely_done _ rfl (congrArg Value.bool HEM.out) (Ext.refl _) hI
                    refine stepsR_cons ?_ ?_
                    · intro vs W' hl hI hd ho
                      refine hold ?_
                      obtain ⟨x0, x1, x2, x3, x4, x5, x6, x7, x8, x9, rfl⟩ := lenlit10 hl; clear hl
                      simp only [factsR, atR, List.getElem?_cons_succ, List.getElem?_cons_zero, Rel.one, Rel.blk] at hd
                      obtain ⟨rfl, -⟩ := hd
                      refine held ?_
                      simp only [putAll, Act.put, List.setIfInBounds_toArray, List.set_cons_succ, List.set_cons_zero]
                      go_wp2_with fail
                      exact rely_done _ rfl rfl (Ext.refl _) hI
                    refine stepsR_cons ?_ ?_
                    · intro vs W' hl hI hd ho
                      refine hold ?_
                      obtain ⟨x0, x1, x2, x3, x4, x5, x6, x7, x8, x9, rfl⟩ := lenlit10 hl; clear hl
                      simp only [factsR, atR, List.getElem?_cons_succ, List.getElem?_cons_zero, Rel.one, Rel.blk] at hd
                      obtain ⟨rfl, -⟩ := hd
                      refine held ?_
                      simp only [putAll, Act.put, List.setIfInBounds_toArray, List.set_cons_succ, List.set_cons_zero]
                      go_wp2_with fail
                      exact rely_done _ rfl rfl (Ext.refl _) hI
                    refine stepsR_cons ?_ ?_
                    · intro vs W' hl hI hd ho
                      refine hold ?_
                      obtain ⟨x0, x1, x2, x3, x4, x5, x6, x7, x8, x9, rfl⟩ := lenlit10 hl; clear hl
                      simp only [factsR, atR, List.getElem?_cons_succ, List.getElem?_cons_zero, Rel.one, Rel.blk] at hd
                      obtain ⟨rfl, rfl, -⟩ := hd
                      refine held ?_
                      simp only [putAll, Act.put, List.setIfInBounds_toArray, List.set_cons_succ, List.set_cons_zero]
                      go_wp2_with fail
                      exact rely_done _ rfl rfl (Ext.refl _) hI
                    refine stepsR_cons ?_ ?_
                    · intro vs W' hl hI hd ho
                      refine hold ?_
                      obtain ⟨x0, x1, x2, x3, x4, x5, x6, x7, x8, x9, rfl⟩ := lenlit10 hl; clear hl
                      simp only [factsR, atR, List.getElem?_cons_succ, List.getElem?_cons_zero, Rel.one, Rel.blk] at hd
                      obtain ⟨rfl, -⟩ := hd
                      refine held ?_
                      simp only [putAll, Act.put, List.setIfInBounds_toArray, List.set_cons_succ, List.set_cons_zero]
                      go_wp2_with fail
                      exact rely_done _ rfl rfl (Ext.refl _) hI
                    refine stepsR_cons ?_ ?_
                    · intro vs W' hl hI hd ho
                      refine hold ?_
                      obtain ⟨x0, x1, x2, x3, x4, x5, x6, x7, x8, x9, rfl⟩ := lenlit10 hl; clear hl
                      simp only [factsR, atR, List.getElem?_cons_succ, List.getElem?_cons_zero, Rel.one, Rel.blk] at hd
                      obtain ⟨rfl, -⟩ := hd
                      refine held ?_
                      simp only [putAll, Act.put, List.setIfInBounds_toArray, List.set_cons_succ, List.set_cons_zero]
                      go_wp2_with fail
                      exact rely_done _ rfl rfl (Ext.refl _) hI
                    refine stepsR_cons ?_ ?_
                    · intro vs W' hl hI hd ho
                      refine hold ?_
                      obtain ⟨x0, x1, x2, x3, x4, x5, x6, x7, x8, x9, rfl⟩ := lenlit10 hl; clear hl
                      simp only [factsR, atR, List.getElem?_cons_succ, List.getElem?_cons_zero, Rel.one, Rel.blk] at hd
                      obtain ⟨rfl, rfl, rfl, -⟩ := hd
                      refine held ?_
                      simp only [putAll, Act.put, List.setIfInBounds_toArray, List.set_cons_succ, List.set_cons_zero]
                      go_wp2_with fail
                      exact rely_done _ rfl rfl (Ext.refl _) hI
                    refine stepsR_cons ?_ ?_
                    · intro vs W' hl hI hd ho
                      refine hold ?_
                      obtain ⟨x0, x1, x2, x3, x4, x5, x6, x7, x8, x9, rfl⟩ := lenlit10 hl; clear hl
                      simp only [factsR, atR, List.getElem?_cons_succ, List.getElem?_cons_zero, Rel.one, Rel.blk] at hd
                      obtain ⟨rfl, rfl, rfl, -⟩ := hd
                      refine held ?_
                      simp only [putAll, Act.put, List.setIfInBounds_toArray, List.set_cons_succ, List.set_cons_zero]
                      go_wp2_with fail
                      exact rely_done _ rfl rfl (Ext.refl _) hI
                    refine stepsR_cons ?_ ?_
                    · intro vs W' hl hI hd ho
                      refine hold ?_
                      obtain ⟨x0, x1, x2, x3, x4, x5, x6, x7, x8, x9, rfl⟩ := lenlit10 hl; clear hl
                      simp only [factsR, atR, List.getElem?_cons_succ, List.getElem?_cons_zero, Rel.one, Rel.blk] at hd
                      obtain ⟨rfl, rfl, -⟩ := hd
                      refine held ?_
                      simp only [putAll, Act.put, List.setIfInBounds_toArray, List.set_cons_succ, List.set_cons_zero]
                      go_wp2_with fail
                      exact rely_done _ rfl rfl (Ext.refl _) hI
                    exact trivial
                  · intro vs W' hl hI hd
                    obtain ⟨x0, x1, x2, x3, x4, x5, x6, x7, x8, x9, rfl⟩ := lenlit10 hl; clear hl
                    simp only [List.length_cons, List.length_nil, List.range, List.range.loop, Nat.zero_add, Nat.reduceAdd, factsR, atR, List.getElem?_cons_succ, List.getElem?_cons_zero, Rel.one, Rel.blk] at hd
                    obtain ⟨rfl, rfl, rfl, rfl, rfl, rfl, rfl, rfl, rfl, rfl, -⟩ := hd
                    simp only [putAll, Act.put, List.setIfInBounds_toArray, List.set_cons_succ, List.set_cons_zero]
                    replace hx := hx.trans hI
                    go_wp2_with fail
                    exact ⟨⟨5, _, c3, by omega, by simp, rfl, rfl, by rw [HPV.out]; exact h3.ext hI, HUP2.out, hx⟩, by simp only [intOf]; omega⟩
                · have hno : Hid (fmtB l = false) := Lib.hid (fmtB_no (k := 4) (by decide) (by unfold okG; rw [decide_eq_false (show ¬ 4 = 6 by decide), HOF2.out, decide_eq_false (show ¬ nthB l 16 = sgn 4 from hs)]; simp))
                  generalize nthB l 16 = XS at *
                  have HSN := Lib.hid hs
                  clear hs
                  go_upto_region 18 with fail
                  generalize W' = Wy at *
                  refine region_rely (S := Ext) (fun Wz => Ext Wy Wz) [some 60, some 61, some 62, some 63, some 64, some 65, some 66, some 67, some 68, some 69] [[], [0], [1], [2], [2, 3], [2], [2], [2, 5, 6], [2, 4, 7], [2, 8]] [[], [], [], [], [], [], [], [], [], []] [.one (.string R2), .one (.bool false), .one (.bool false), .one (.string R2), .one (.int .u8 XS), .one (.string ⟨#[45, 45, 84, 58, 58, 46]⟩), .one (.int .i64 4), .one (.int .u8 58), .one (.bool true), .one (.bool true)] (by kernel_rfl) (by kernel_rfl) (Ext.refl Wy).drew ?_ ?_
                  · refine stepsR_cons ?_ ?_
                    · intro vs W' hl hI hd ho
                      refine hold ?_
                      obtain ⟨x0, x1, x2, x3, x4, x5, x6, x7, x8, x9, rfl⟩ := lenlit10 hl; clear hl
                      refine held ?_
                      simp only [putAll, Act.put, List.setIfInBounds_toArray, List.set_cons_succ, List.set_cons_zero]
                      go_wp2_with fail
                      exact rely_done _ rfl rfl (Ext.refl _) hI
                    refine stepsR_cons ?_ ?_
                    · intro vs W' hl hI hd ho
                      refine hold ?_
                      obtain ⟨x0, x1, x2, x3, x4, x5, x6, x7, x8, x9, rfl⟩ := lenlit10 hl; clear hl
                      simp only [factsR, atR, List.getElem?_cons_succ, List.getElem?_cons_zero, Rel.one, Rel.blk] at hd
                      obtain ⟨rfl, -⟩ := hd
                      refine held ?_
                      simp only [putAll, Act.put, List.setIfInBounds_toArray, List.set_cons_succ, List.set_cons_zero]
                      go_wp2_with fail
                      exact rely_done _ rfl (congrArg Value.bool HEM.out) (Ext.refl _) hI
                    refine stepsR_cons ?_ ?_
                    · intro vs W' hl hI hd ho
                      refine hold ?_
                      obtain ⟨x0, x1, x2, x3, x4, x5, x6, x7, x8, x9, rfl⟩ := lenlit10 hl; clear hl
                      simp only [factsR, atR, List.getElem?_cons_succ, List.getElem?_cons_zero, Rel.one, Rel.blk] at hd
                      obtain ⟨rfl, -⟩ := hd
                      refine held ?_
                      simp only [putAll, Act.put, List.setIfInBounds_toArray, List.set_cons_succ, List.set_cons_zero]
                      go_wp2_with fail
                      exact rely_done _ rfl rfl (Ext.refl _) hI
                    refine stepsR_cons ?_ ?_
                    · intro vs W' hl hI hd ho
                      refine hold ?_
                      obtain ⟨x0, x1, x2, x3, x4, x5, x6, x7, x8, x9, rfl⟩ := lenlit10 hl; clear hl
                      simp only [factsR, atR, List.getElem?_cons_succ, List.getElem?_cons_zero, Rel.one, Rel.blk] at hd
                      obtain ⟨rfl, -⟩ := hd
                      refine held ?_
                      simp only [putAll, Act.put, List.setIfInBounds_toArray, List.set_cons_succ, List.set_cons_zero]
                      go_wp2_with fail
                      exact rely_done _ rfl rfl (Ext.refl _) hI
                    refine stepsR_cons ?_ ?_
                    · intro vs W' hl hI hd ho
                      refine hold ?_
                      obtain ⟨x0, x1, x2, x3, x4, x5, x6, x7, x8, x9, rfl⟩ := lenlit10 hl; clear hl
                      simp only [factsR, atR, List.getElem?_cons_succ, List.getElem?_cons_zero, Rel.one, Rel.blk] at hd
                      obtain ⟨rfl, rfl, -⟩ := hd
                      refine held ?_
                      simp only [putAll, Act.put, List.setIfInBounds_toArray, List.set_cons_succ, List.set_cons_zero]
                      go_wp2_with fail
                      exact rely_done _ rfl rfl (Ext.refl _) hI
                    refine stepsR_cons ?_ ?_
                    · intro vs W' hl hI hd ho
                      refine hold ?_
                      obtain ⟨x0, x1, x2, x3, x4, x5, x6, x7, x8, x9, rfl⟩ := lenlit10 hl; clear hl
                      simp only [factsR, atR, List.getElem?_cons_succ, List.getElem?_cons_zero, Rel.one, Rel.blk] at hd
                      obtain ⟨rfl, -⟩ := hd
                      refine held ?_
                      simp only [putAll, Act.put, List.setIfInBounds_toArray, List.set_cons_succ, List.set_cons_zero]
                      go_wp2_with fail
                      exact rely_done _ rfl rfl (Ext.refl _) hI
                    refine stepsR_cons ?_ ?_
                    · intro vs W' hl hI hd ho
                      refine hold ?_
                      obtain ⟨x0, x1, x2, x3, x4, x5, x6, x7, x8, x9, rfl⟩ := lenlit10 hl; clear hl
                      simp only [factsR, atR, List.getElem?_cons_succ, List.getElem?_cons_zero, Rel.one, Rel.blk] at hd
                      obtain ⟨rfl, -⟩ := hd
                      refine held ?_
                      simp only [putAll, Act.put, List.setIfInBounds_toArray, List.set_cons_succ, List.set_cons_zero]
                      go_wp2_with fail
                      exact rely_done _ rfl rfl (Ext.refl _) hI
                    refine stepsR_cons ?_ ?_
                    · intro vs W' hl hI hd ho
                      refine hold ?_
                      obtain ⟨x0, x1, x2, x3, x4, x5, x6, x7, x8, x9, rfl⟩ := lenlit10 hl; clear hl
                      simp only [factsR, atR, List.getElem?_cons_succ, List.getElem?_cons_zero, Rel.one, Rel.blk] at hd
                      obtain ⟨rfl, rfl, rfl, -⟩ := hd
                      refine held ?_
                      simp only [putAll, Act.put, List.setIfInBounds_toArray, List.set_cons_succ, List.set_cons_zero]
                      go_wp2_with fail
                      exact rely_done _ rfl rfl (Ext.refl _) hI
                    refine stepsR_cons ?_ ?_
                    · intro vs W' hl hI hd ho
                      refine hold ?_
                      obtain ⟨x0, x1, x2, x3, x4, x5, x6, x7, x8, x9, rfl⟩ := lenlit10 hl; clear hl
                      simp only [factsR, atR, List.getElem?_cons_succ, List.getElem?_cons_zero, Rel.one, Rel.blk] at hd
                      obtain ⟨rfl, rfl, rfl, -⟩ := hd
                      refine held ?_
                      simp only [putAll, Act.put, List.setIfInBounds_toArray, List.set_cons_succ, List.set_cons_zero]
                      go_wp2_with fail
                      exact rely_done _ rfl (congrArg Value.bool (bne_iff_ne.2 HSN.out)) (Ext.refl _) hI
                    refine stepsR_cons ?_ ?_
                    · intro vs W' hl hI hd ho
                      refine hold ?_
                      obtain ⟨x0, x1, x2, x3, x4, x5, x6, x7, x8, x9, rfl⟩ := lenlit10 hl; clear hl
                      simp only [factsR, atR, List.getElem?_cons_succ, List.getElem?_cons_zero, Rel.one, Rel.blk] at hd
                      obtain ⟨rfl, rfl, -⟩ := hd
                      refine held ?_
                      simp only [putAll, Act.put, List.setIfInBounds_toArray, List.set_cons_succ, List.set_cons_zero]
                      go_wp2_with fail
                      exact rely_done _ rfl rfl (Ext.refl _) hI
                    exact trivial
                  · intro vs W' hl hI hd
                    obtain ⟨x0, x1, x2, x3, x4, x5, x6, x7, x8, x9, rfl⟩ := lenlit10 hl; clear hl
                    simp only [List.length_cons, List.length_nil, List.range, List.range.loop, Nat.zero_add, Nat.reduceAdd, factsR, atR, List.getElem?_cons_succ, List.getElem?_cons_zero, Rel.one, Rel.blk] at hd
                    obtain ⟨rfl, rfl, rfl, rfl, rfl, rfl, rfl, rfl, rfl, rfl, -⟩ := hd
                    simp only [putAll, Act.put, List.setIfInBounds_toArray, List.set_cons_succ, List.set_cons_zero]
                    replace hx := hx.trans hI
                    go_wp2_with fail
                    (try rw [Exit.noGoto_ret])
                    go_ret2
                    exact ⟨none, 0, 0, false, rfl, hx, hno.out.symm, fun h => by cases h⟩
              · have hno : Hid (fmtB l = false) := Lib.hid (fmtB_no (k := 4) (by decide) (by unfold okG; rw [decide_eq_false (show ¬ 4 = 6 by decide), HOF2.out, decide_eq_false hne]; simp))
                have hemp : (mkS (l.drop 16)).toList.isEmpty = true := by
                  rw [HXT.out, List.drop_of_length_le (by omega)]; rfl
                clear hRZ2 HXA HXB HXT
                generalize mkS (l.drop 16) = R2 at *
                have HEM := Lib.hid hemp
                clear hemp
                go_upto_region 18 with fail
                generalize W' = Wy at *
                refine region_rely (S := Ext) (fun Wz => Ext Wy Wz) [some 60, some 61, some 62, some 63, some 64, some 65, some 66, some 67, some 68, some 69] [[], [0], [1], [2], [2, 3], [2], [2], [2, 5, 6], [2, 4, 7], [2, 8]] [[], [], [], [], [], [], [], [], [], []] [.one (.string R2), .one (.bool true), .one (.bool true), .one (undef), .one (undef), .one (undef), .one (undef), .one (undef), .one (undef), .one (.bool true)] (by kernel_rfl) (by kernel_rfl) (Ext.refl Wy).drew ?_ ?_
                · refine stepsR_cons ?_ ?_
                  · intro vs W' hl hI hd ho
                    refine hold ?_
                    obtain ⟨x0, x1, x2, x3, x4, x5, x6, x7, x8, x9, rfl⟩ := lenlit10 hl; clear hl
                    refine held ?_
                    simp only [putAll, Act.put, List.setIfInBounds_toArray, List.set_cons_succ, List.set_cons_zero]
                    go_wp2_with fail
                    exact rely_done _ rfl rfl (Ext.refl _) hI
                  refine stepsR_cons ?_ ?_
                  · intro vs W' hl hI hd ho
                    refine hold ?_
                    obtain ⟨x0, x1, x2, x3, x4, x5, x6, x7, x8, x9, rfl⟩ := lenlit10 hl; clear hl
                    simp only [factsR, atR, List.getElem?_cons_succ, List.getElem?_cons_zero, Rel.one, Rel.blk] at hd
                    obtain ⟨rfl, -⟩ := hd
                    refine held ?_
                    simp only [putAll, Act.put, List.setIfInBounds_toArray, List.set_cons_succ, List.set_cons_zero]
                    go_wp2_with fail
                    exact rely_done _ rfl (congrArg Value.bool HEM.out) (Ext.refl _) hI
                  refine stepsR_cons ?_ ?_
                  · intro vs W' hl hI hd ho
                    refine hold ?_
                    obtain ⟨x0, x1, x2, x3, x4, x5, x6, x7, x8, x9, rfl⟩ := lenlit10 hl; clear hl
                    simp only [factsR, atR, List.getElem?_cons_succ, List.getElem?_cons_zero, Rel.one, Rel.blk] at hd
                    obtain ⟨rfl, -⟩ := hd
                    refine held ?_
                    simp only [putAll, Act.put, List.setIfInBounds_toArray, List.set_cons_succ, List.set_cons_zero]
                    go_wp2_with fail
                    exact rely_done _ rfl rfl (Ext.refl _) hI
                  refine stepsR_cons ?_ ?_
                  · intro vs W' hl hI hd ho
                    refine hold ?_
                    obtain ⟨x0, x1, x2, x3, x4, x5, x6, x7, x8, x9, rfl⟩ := lenlit10 hl; clear hl
                    simp only [factsR, atR, List.getElem?_cons_succ, List.getElem?_cons_zero, Rel.one, Rel.blk] at hd
                    obtain ⟨rfl, -⟩ := hd
                    refine held ?_
                    simp only [putAll, Act.put, List.setIfInBounds_toArray, List.set_cons_succ, List.set_cons_zero]
                    skip
                    exact rely_undef (by rfl) rfl rfl (Ext.refl _) hI
                  refine stepsR_cons ?_ ?_
                  · intro vs W' hl hI hd ho
                    refine hold ?_
                    obtain ⟨x0, x1, x2, x3, x4, x5, x6, x7, x8, x9, rfl⟩ := lenlit10 hl; clear hl
                    simp only [factsR, atR, List.getElem?_cons_succ, List.getElem?_cons_zero, Rel.one, Rel.blk] at hd
                    obtain ⟨rfl, rfl, -⟩ := hd
                    refine held ?_
                    simp only [putAll, Act.put, List.setIfInBounds_toArray, List.set_cons_succ, List.set_cons_zero]
                    skip
                    exact rely_undef (by rfl) rfl rfl (Ext.refl _) hI
                  refine stepsR_cons ?_ ?_
                  · intro vs W' hl hI hd ho
                    refine hold ?_
                    obtain ⟨x0, x1, x2, x3, x4, x5, x6, x7, x8, x9, rfl⟩ := lenlit10 hl; clear hl
                    simp only [factsR, atR, List.getElem?_cons_succ, List.getElem?_cons_zero, Rel.one, Rel.blk] at hd
                    obtain ⟨rfl, -⟩ := hd
                    refine held ?_
                    simp only [putAll, Act.put, List.setIfInBounds_toArray, List.set_cons_succ, List.set_cons_zero]
                    skip
                    exact rely_undef (by rfl) rfl rfl (Ext.refl _) hI
                  refine stepsR_cons ?_ ?_
                  · intro vs W' hl hI hd ho
                    refine hold ?_
                    obtain ⟨x0, x1, x2, x3, x4, x5, x6, x7, x8, x9, rfl⟩ := lenlit10 hl; clear hl
                    simp only [factsR, atR, List.getElem?_cons_succ, List.getElem?_cons_zero, Rel.one, Rel.blk] at hd
                    obtain ⟨rfl, -⟩ := hd
                    refine held ?_
                    simp only [putAll, Act.put, List.setIfInBounds_toArray, List.set_cons_succ, List.set_cons_zero]
                    skip
                    exact rely_undef (by rfl) rfl rfl (Ext.refl _) hI
                  refine stepsR_cons ?_ ?_
                  · intro vs W' hl hI hd ho
                    refine hold ?_
                    obtain ⟨x0, x1, x2, x3, x4, x5, x6, x7, x8, x9, rfl⟩ := lenlit10 hl; clear hl
                    simp only [factsR, atR, List.getElem?_cons_succ, List.getElem?_cons_zero, Rel.one, Rel.blk] at hd
                    obtain ⟨rfl, rfl, rfl, -⟩ := hd
                    refine held ?_
                    simp only [putAll, Act.put, List.setIfInBounds_toArray, List.set_cons_succ, List.set_cons_zero]
                    skip
                    exact rely_undef (by rfl) rfl rfl (Ext.refl _) hI
                  refine stepsR_cons ?_ ?_
                  · intro vs W' hl hI hd ho
                    refine hold ?_
                    obtain ⟨x0, x1, x2, x3, x4, x5, x6, x7, x8, x9, rfl⟩ := lenlit10 hl; clear hl
                    simp only [factsR, atR, List.getElem?_cons_succ, List.getElem?_cons_zero, Rel.one, Rel.blk] at hd
                    obtain ⟨rfl, rfl, rfl, -⟩ := hd
                    refine held ?_
                    simp only [putAll, Act.put, List.setIfInBounds_toArray, List.set_cons_succ, List.set_cons_zero]
                    skip
                    exact rely_undef (by rfl) rfl rfl (Ext.refl _) hI
                  refine stepsR_cons ?_ ?_
                  · intro vs W' hl hI hd ho
                    refine hold ?_
                    obtain ⟨x0, x1, x2, x3, x4, x5, x6, x7, x8, x9, rfl⟩ := lenlit10 hl; clear hl
                    simp only [factsR, atR, List.getElem?_cons_succ, List.getElem?_cons_zero, Rel.one, Rel.blk] at hd
                    obtain ⟨rfl, rfl, -⟩ := hd
                    refine held ?_
                    simp only [putAll, Act.put, List.setIfInBounds_toArray, List.set_cons_succ, List.set_cons_zero]
                    go_wp2_with fail
                    exact rely_done _ rfl rfl (Ext.refl _) hI
                  exact trivial
                · intro vs W' hl hI hd
                  obtain ⟨x0, x1, x2, x3, x4, x5, x6, x7, x8, x9, rfl⟩ := lenlit10 hl; clear hl
                  simp only [List.length_cons, List.length_nil, List.range, List.range.loop, Nat.zero_add, Nat.reduceAdd, factsR, atR, List.getElem?_cons_succ, List.getElem?_cons_zero, Rel.one, Rel.blk] at hd
                  obtain ⟨rfl, rfl, rfl, rfl, rfl, rfl, rfl, rfl, rfl, rfl, -⟩ := hd
                  simp only [putAll, Act.put, List.setIfInBounds_toArray, List.set_cons_succ, List.set_cons_zero]
                  replace hx := hx.trans hI
                  go_wp2_with fail
                  (try rw [Exit.noGoto_ret])
                  go_ret2
                  exact ⟨none, 0, 0, false, rfl, hx, hno.out.symm, fun h => by cases h⟩
      · have hno : Hid (fmtB l = false) := Lib.hid (fmtB_no (k := 4) (by decide) (by unfold okG; rw [HOF.out]; rw [decide_eq_false (by rw [HWD.out]; exact hlen)]; rfl))
        have q1 : (RZ : Int) < 2 := by omega
        generalize mkS (l.drop 14) = R at *
        clear hX1 hX2 hR0
        go_wp2_with fail
        (try rw [Exit.noGoto_ret])
        go_ret2
        exact ⟨none, 0, 0, false, rfl, hx, hno.out.symm, fun h => by cases h⟩
    · have p := hdr.c 5 _ rfl
      have hof : off 5 = 17 := rfl
      have HOF := Lib.hid hof
      have hwd : wid 5 = 2 := rfl
      have HWD := Lib.hid hwd
      rw [hof]
      obtain ⟨RZ, hRZ⟩ : ∃ RZ, l.length - 17 = RZ := ⟨_, rfl⟩
      have hRz : (mkS (l.drop 17)).size = RZ := by rw [mkS_size, List.length_drop, hRZ]
      have hX1 : (mkS (l.drop 17)).extract 0 2 = mkS ((l.drop 17).take 2) := by rw [mkS_extract]; simp
      have hX2 : (mkS (l.drop 17)).extract 2 RZ = mkS (l.drop 19) := by
        rw [mkS_extract, List.drop_drop, List.take_of_length_le (by rw [List.length_drop]; omega)]
      by_cases hlen : 17 + 2 ≤ l.length
      · have q1 : (2 : Int) ≤ (RZ : Int) := by omega
        have q2 : ¬ ((RZ : Int) < 2) := by omega
        have hGs : (mkS ((l.drop 17).take 2)).size = 2 := by rw [mkS_size, List.length_take, List.length_drop]; omega
        have hcv := run_bytes_of_string (P := Tryd.prog) wr 9 66 5 (mkS ((l.drop 17).take 2)) (by kernel_rfl) (by kernel_rfl) (by kernel_rfl)
        rw [hGs] at hcv
        have hbc : ∀ j, j < 2 → (wr.drew.alloc (.cells (bytesRow (mkS ((l.drop 17).take 2)) (grownCap wr 2 0 5)) 5 ((bytesRow (mkS ((l.drop 17).take 2)) (grownCap wr 2 0 5)).size, (bytesRow (mkS ((l.drop 17).take 2)) (grownCap wr 2 0 5)).size + 1))).cell? ⟨wr.heap.size, j, none⟩ = some (.int .u8 (nthB l (17 + j))) := fun j hj => by
          rw [← nthB_drop l 17 j, ← nthB_take (l.drop 17) 2 j hj]
          exact bytes_cell wr.drew _ _ _ _ j (by rw [List.length_take, List.length_drop]; omega)
        have hEc : Ext wr (wr.drew.alloc (.cells (bytesRow (mkS ((l.drop 17).take 2)) (grownCap wr 2 0 5)) 5 ((bytesRow (mkS ((l.drop 17).take 2)) (grownCap wr 2 0 5)).size, (bytesRow (mkS ((l.drop 17).take 2)) (grownCap wr 2 0 5)).size + 1))) := (Ext.refl wr).drew.alloc _
        generalize wr.drew.alloc (.cells (bytesRow (mkS ((l.drop 17).take 2)) (grownCap wr 2 0 5)) 5 ((bytesRow (mkS ((l.drop 17).take 2)) (grownCap wr 2 0 5)).size, (bytesRow (mkS ((l.drop 17).take 2)) (grownCap wr 2 0 5)).size + 1)) = W1 at *
        generalize grownCap wr 2 0 5 = CP at *
        generalize hGG : mkS ((l.drop 17).take 2) = GG at *
        clear hGG
        have HBC := Lib.hid hbc
        have HLEN := Lib.hid hlen
        have HX2 := Lib.hid hX2
        have HRZ := Lib.hid hRZ
        have hbl : wr.heap.size = wr.heap.size := rfl
        obtain ⟨bb, hbb⟩ : ∃ bb, wr.heap.size = bb := ⟨_, rfl⟩
        rw [hbb] at hcv HBC
        clear hbc hlen hX2 hR0 hbl hbb
        generalize mkS (l.drop 17) = R at *
        go_wp2_with fail
        go_loopw [12, 32] (fun nn j wq => ∃ (i : Nat), i ≤ 2 ∧ j = .int .i64 (i : Int) ∧ nn = .int .i64 (numB l 17 i) ∧ allB l 17 i = true ∧ Ext W1 wq) (fun _ j _ => 2 - (intOf j).toNat)
        case atStart => exact ⟨0, by omega, rfl, rfl, rfl, Ext.refl _⟩
        case round =>
          obtain ⟨i, hi, rfl, rfl, hal, hy⟩ := hrel
          have hEq := hEc.trans hy
          have HAL := Lib.hid hal
          have hnb := numB_bd hal
          have hpow : (10 : Int) ^ i ≤ 1000000 := by
            have := Nat.pow_le_pow_right (show 0 < 10 by decide) (show i ≤ 6 by omega)
            have h2 : ((10 ^ i : Nat) : Int) ≤ ((10 ^ 6 : Nat) : Int) := by exact_mod_cast this
            simpa using h2
          have hnb2 : 0 ≤ numB l 17 i ∧ numB l 17 i < 1000000 := by omega
          clear hal hnb hpow
          by_cases hlt2 : i < 2
          · have c8 := hy.cell (HBC.out i hlt2)
            have HNS : Hid (numB l 17 (i + 1) = 10 * numB l 17 i + (nthB l (17 + i) - 48)) := Lib.hid rfl
            have hbb2 := nthB_bd l (17 + i)
            have HAS : Hid (digB (nthB l (17 + i)) = true → allB l 17 (i + 1) = true) := Lib.hid (fun h => by simp only [allB]; rw [HAL.out, h]; rfl)
            have HAN : Hid (digB (nthB l (17 + i)) = false → allB l 17 2 = false) := Lib.hid (fun h => allB_not hlt2 h)
            generalize numB l 17 i = NN at *
            generalize nthB l (17 + i) = XB at *
            by_cases hd1 : 48 ≤ XB
            · by_cases hd2 : XB ≤ 57
              · have hd1' : ¬ XB < 48 := by omega
                have hd2' : ¬ 57 < XB := by omega
                have HDG := Lib.hid (HAS.out (digB_iff.2 ⟨hd1, hd2⟩))
                go_wp2_with fail
                exact ⟨⟨i + 1, by omega, by go_num, by rw [HNS.out], HDG.out, hy⟩, by simp only [intOf]; omega⟩
              · have hd2' : 57 < XB := by omega
                have hd1' : ¬ XB < 48 := by omega
                have hf := HAN.out (by rw [Bool.eq_false_iff]; exact fun h => hd2 (digB_iff.1 h).2)
                have hno : Hid (fmtB l = false) := Lib.hid (fmtB_no (k := 5) (by decide) (by unfold okG; rw [HOF.out]; rw [HWD.out, hf]; simp))
                clear hf
                go_wp2_with fail
                (try rw [Exit.noGoto_ret])
                go_ret2
                exact ⟨none, 0, 0, false, rfl, hx.trans hEq, hno.out.symm, fun h => by cases h⟩
            · have hd1' : XB < 48 := by omega
              have hf := HAN.out (by rw [Bool.eq_false_iff]; exact fun h => hd1 (digB_iff.1 h).1)
              have hno : Hid (fmtB l = false) := Lib.hid (fmtB_no (k := 5) (by decide) (by unfold okG; rw [HOF.out]; rw [HWD.out, hf]; simp))
              clear hf
              go_wp2_with fail
              (try rw [Exit.noGoto_ret])
              go_ret2
              exact ⟨none, 0, 0, false, rfl, hx.trans hEq, hno.out.symm, fun h => by cases h⟩
          · obtain rfl : i = 2 := by omega
            have hNV : valB l 5 = numB l 17 2 := rfl
            have hPV : valsB l 6 = valsB l 5 ++ [valB l 5] := rfl
            rw [hNV] at hPV
            have HPV := Lib.hid hPV
            clear hNV hPV
            have ho2 := ho.ext hEq
            have hxq := hx.trans hEq
            generalize numB l 17 2 = NV at *
            generalize valsB l 5 = PV at *
            have hwNV : (Lit.int .i64 NV).wf = true := wfi (by omega) (by omega)
            have hX2 := HX2.out
            go_upto_region 16 with fail
            have hEz := hxq
            have HOKW : Hid (allB l (off 5) (wid 5) = true ∧ off 5 + wid 5 ≤ l.length) := Lib.hid ⟨HAL.out, HLEN.out⟩
            clear hxq hEq hy hEc hx hcv HBC HAL hdr p q2
            have hoZ := ho2
            have hB0 := hEz.sz
            clear ho2 ho
            generalize wr = Vz at *
            refine region_relyF (fun listed W' => Ext w W' ∧ (listed 3 = false → Ext Vz W')) [some 49, some 50, some 51, some 52, some 53, some 54, some 55, some 8, some 9] [[], [], [1], [0, 1, 2], [], [], [4, 5], [0, 1, 2, 3], [0, 1, 2, 3, 4, 5, 6, 7]] [[], [], [1], [0, 2], [], [], [4, 5], [3], [6]] [none, none, none, none, none, none, none, some 3, none] [false, false, false, false, false, false, false, false, false] [.one (.slice aa 5 cc), .one (.int .i64 NV), RLi Vz.heap.size #[.int .i64 NV], RNi w.heap.size 6 (PV ++ [NV]), .one (.string R), .one (.int .i64 2), .one (.string (mkS (l.drop 19))), RSm 3, .one (.string (mkS (l.drop 19)))] (by kernel_rfl) (by kernel_rfl) rfl ⟨hEz.drew, fun _ => (Ext.refl Vz).drew⟩ ?_ ?_
            · refine stepsF_cons ?_ ?_
              · intro listed vs W' hl hI hd hs hn hu hz ho9
                refine hold ?_
                obtain ⟨x0, x1, x2, x3, x4, x5, x6, x7, x8, rfl⟩ := lenlit9 hl; clear hl
                refine held ?_
                simp only [putAll, Act.put, List.setIfInBounds_toArray, List.set_cons_succ, List.set_cons_zero]
                have h7z : listed 7 = false := by cases h : listed 7 with | false => rfl | true => exact absurd (by decide) (hu 7 h)
                obtain rfl : x7 = .slice aa 5 cc := ho9 7 (some 8) x7 h7z rfl rfl
                go_wp2_with fail
                exact relyE_done _ rfl rfl (Ext.refl _) ⟨hI.1, fun h => hI.2 (updE_false h)⟩
              refine stepsF_cons ?_ ?_
              · intro listed vs W' hl hI hd hs hn hu hz ho9
                refine hold ?_
                obtain ⟨x0, x1, x2, x3, x4, x5, x6, x7, x8, rfl⟩ := lenlit9 hl; clear hl
                refine held ?_
                simp only [putAll, Act.put, List.setIfInBounds_toArray, List.set_cons_succ, List.set_cons_zero]
                go_wp2_with fail
                exact relyE_done _ rfl rfl (Ext.refl _) ⟨hI.1, fun h => hI.2 (updE_false h)⟩
              refine stepsF_cons ?_ ?_
              · intro listed vs W' hl hI hd hs hn hu hz ho9
                refine hold ?_
                obtain ⟨x0, x1, x2, x3, x4, x5, x6, x7, x8, rfl⟩ := lenlit9 hl; clear hl
                simp only [factsL, atL, refV, List.getElem?_cons_succ, List.getElem?_cons_zero, List.getD_cons_succ, List.getD_cons_zero, RelL.one, RelL.any, RelL.blk, RelL.law, RNi, RLi, RSm] at hd
                obtain ⟨rfl, -⟩ := hd
                refine held ?_
                simp only [putAll, Act.put, List.setIfInBounds_toArray, List.set_cons_succ, List.set_cons_zero]
                go_wp2_with fail
                have h3z : listed 3 = false := by cases h : listed 3 with | false => rfl | true => exact absurd (by decide) (hu 3 h)
                exact relyE_done _ rfl ⟨_, rfl, (hI.2 h3z).sz, World.alloc_heap_new _ _⟩ ((Ext.refl _).alloc _) ⟨hI.1.alloc _, fun h => (hI.2 (updE_false h)).alloc _⟩
              refine stepsF_cons ?_ ?_
              · intro listed vs W' hl hI hd hs hn hu hz ho9
                refine hold ?_
                obtain ⟨x0, x1, x2, x3, x4, x5, x6, x7, x8, rfl⟩ := lenlit9 hl; clear hl
                simp only [factsL, atL, refV, List.getElem?_cons_succ, List.getElem?_cons_zero, List.getD_cons_succ, List.getD_cons_zero, RelL.one, RelL.any, RelL.blk, RelL.law, RNi, RLi, RSm] at hd
                obtain ⟨rfl, ⟨b2, rfl, hb2, hB2⟩, -⟩ := hd
                refine held ?_
                simp only [putAll, Act.put, List.setIfInBounds_toArray, List.set_cons_succ, List.set_cons_zero]
                have hz2 := hI.2 hz
                have hbz : w.heap.size ≤ W'.heap.size := by have := hz2.sz; have := hB0; omega
                have ho2 := hoZ.ext hz2
                have hlit : Sl .i64 W' (some ⟨b2, 0, none⟩) 1 1 [NV] := lit_of_block (E := 3) hB2 hwNV
                go_wp2_with (at_builtin; refine appSg el_i64 rfl _ _ rfl _ w.heap.size _ _ _ _ rfl ho2 _ _ _ _ rfl hlit (by omega) hbz (by unfold maxLen; omega) (by omega) ?_; intro g3 c3 w3 hop hB hg; refine hold ?_)
                refine held ?_
                exact wpList_nil (relyE_store _ rfl ⟨_, _, rfl, hop⟩ hB.size ⟨fun _ _ h => h, fun _ _ h => h, fun _ _ ⟨b, e1, e2, e3⟩ => ⟨b, e1, e2, (hg.block b (Array.getElem?_eq_some_iff.1 e3).1 (fun e => Nat.lt_irrefl _ (Nat.lt_of_lt_of_le (World.ownsRow.lt hoZ b e.symm).2 e2))).trans e3⟩, fun _ hk _ => absurd rfl hk, fun _ _ h => h, fun _ _ h => h, fun _ _ h => h, fun _ _ h => h, fun _ _ h => h, trivial⟩ ⟨Below.trans hI.1 hB, fun h => by simp [updE] at h⟩)
              refine stepsF_cons ?_ ?_
              · intro listed vs W' hl hI hd hs hn hu hz ho9
                refine hold ?_
                obtain ⟨x0, x1, x2, x3, x4, x5, x6, x7, x8, rfl⟩ := lenlit9 hl; clear hl
                refine held ?_
                simp only [putAll, Act.put, List.setIfInBounds_toArray, List.set_cons_succ, List.set_cons_zero]
                have h7z : listed 8 = false := by cases h : listed 8 with | false => rfl | true => exact absurd (by decide) (hu 8 h)
                obtain rfl : x8 = .string R := ho9 8 (some 9) x8 h7z rfl rfl
                go_wp2_with fail
                exact relyE_done _ rfl rfl (Ext.refl _) ⟨hI.1, fun h => hI.2 (updE_false h)⟩
              refine stepsF_cons ?_ ?_
              · intro listed vs W' hl hI hd hs hn hu hz ho9
                refine hold ?_
                obtain ⟨x0, x1, x2, x3, x4, x5, x6, x7, x8, rfl⟩ := lenlit9 hl; clear hl
                refine held ?_
                simp only [putAll, Act.put, List.setIfInBounds_toArray, List.set_cons_succ, List.set_cons_zero]
                go_wp2_with fail
                exact relyE_done _ rfl rfl (Ext.refl _) ⟨hI.1, fun h => hI.2 (updE_false h)⟩
              refine stepsF_cons ?_ ?_
              · intro listed vs W' hl hI hd hs hn hu hz ho9
                refine hold ?_
                obtain ⟨x0, x1, x2, x3, x4, x5, x6, x7, x8, rfl⟩ := lenlit9 hl; clear hl
                simp only [factsL, atL, refV, List.getElem?_cons_succ, List.getElem?_cons_zero, List.getD_cons_succ, List.getD_cons_zero, RelL.one, RelL.any, RelL.blk, RelL.law, RNi, RLi, RSm] at hd
                obtain ⟨rfl, rfl, -⟩ := hd
                refine held ?_
                simp only [putAll, Act.put, List.setIfInBounds_toArray, List.set_cons_succ, List.set_cons_zero]
                go_wp2_with fail
                exact relyE_done _ rfl rfl (Ext.refl _) ⟨hI.1, fun h => hI.2 (updE_false h)⟩
              refine stepsF_cons ?_ ?_
              · intro listed vs W' hl hI hd hs hn hu hz ho9
                refine hold ?_
                obtain ⟨x0, x1, x2, x3, x4, x5, x6, x7, x8, rfl⟩ := lenlit9 hl; clear hl
                simp only [factsL, atL, refV, List.getElem?_cons_succ, List.getElem?_cons_zero, List.getD_cons_succ, List.getD_cons_zero, RelL.one, RelL.any, RelL.blk, RelL.law, RNi, RLi, RSm] at hd
                obtain ⟨⟨g3, c3, rfl, h3⟩, -⟩ := hd
                refine held ?_
                simp only [putAll, Act.put, List.setIfInBounds_toArray, List.set_cons_succ, List.set_cons_zero]
                go_wp2_with fail
                exact relyE_done _ rfl rfl (Ext.refl _) ⟨hI.1, fun h => hI.2 (updE_false h)⟩
              refine stepsF_cons ?_ ?_
              · intro listed vs W' hl hI hd hs hn hu hz ho9
                refine hold ?_
                obtain ⟨x0, x1, x2, x3, x4, x5, x6, x7, x8, rfl⟩ := lenlit9 hl; clear hl
                simp only [factsL, atL, refV, List.getElem?_cons_succ, List.getElem?_cons_zero, List.getD_cons_succ, List.getD_cons_zero, RelL.one, RelL.any, RelL.blk, RelL.law, RNi, RLi, RSm] at hd
                obtain ⟨rfl, -⟩ := hd
                refine held ?_
                simp only [putAll, Act.put, List.setIfInBounds_toArray, List.set_cons_succ, List.set_cons_zero]
                go_wp2_with fail
                exact relyE_done _ rfl rfl (Ext.refl _) ⟨hI.1, fun h => hI.2 (updE_false h)⟩
              exact trivial
            · intro listed vs W' hl hall hI hd hn
              obtain ⟨x0, x1, x2, x3, x4, x5, x6, x7, x8, rfl⟩ := lenlit9 hl; clear hl
              simp only [List.length_cons, List.length_nil, List.range, List.range.loop, Nat.zero_add, Nat.reduceAdd, factsL, atL, refV, List.getElem?_cons_succ, List.getElem?_cons_zero, List.getD_cons_succ, List.getD_cons_zero, RelL.one, RelL.any, RelL.blk, RelL.law, RNi, RLi, RSm] at hd
              obtain ⟨rfl, rfl, -, ⟨g3, c3, rfl, h3⟩, rfl, rfl, rfl, rfl, rfl, -⟩ := hd
              simp only [putAll, Act.put, List.setIfInBounds_toArray, List.set_cons_succ, List.set_cons_zero]
              have hx := hI.1
              have hof2 : off 5 + wid 5 = 19 := rfl
              have HOF2 := Lib.hid hof2
              have hofn : off 6 = 20 := rfl
              have HOFN := Lib.hid hofn
              clear hof2 hofn hI hn hX2
              obtain ⟨RZ2, hRZ2⟩ : ∃ RZ2, l.length - 19 = RZ2 := ⟨_, rfl⟩
              have HXA := Lib.hid (show (mkS (l.drop 19)).size = RZ2 by rw [mkS_size, List.length_drop, hRZ2])
              have HXB := Lib.hid (show (mkS (l.drop 19)).extract 1 RZ2 = mkS (l.drop 20) by rw [mkS_extract, List.drop_drop, List.take_of_length_le (by rw [List.length_drop]; omega)])
              have HXT := Lib.hid (mkS_toList (l.drop 19))
              by_cases hne : 19 < l.length
              · have hemp : (mkS (l.drop 19)).toList.isEmpty = false := by
                  rw [HXT.out]
                  have : l.drop 19 ≠ [] := fun h => by have := congrArg List.length h; rw [List.length_drop] at this; simp at this; omega
                  cases h : l.drop 19 with
                  | nil => exact absurd h this
                  | cons a b => rfl
                have hix : ∀ W : World, (Instr.index 9 (.string (mkS (l.drop 19))) (.int .i64 0)).run Tryd.prog W = .ok (.int .u8 (nthB l 19)) W := fun W => by
                  have := index_mkS (l.drop 19) 0 (by rw [List.length_drop]; omega) 9 (by kernel_rfl) W
                  rw [nthB_drop] at this
                  exact this
                have q3 : (1 : Int) ≤ (RZ2 : Int) := by omega
                have HNE := Lib.hid hne
                have hXA := HXA.out
                have hXB := HXB.out
                clear hne hRZ2 HXA HXB HXT
                generalize mkS (l.drop 19) = R2 at *
                have HEM := Lib.hid hemp
                clear hemp
                by_cases hs : nthB l 19 = 46
                · have HS := Lib.hid hs
                  have HUP2 : Hid (okUp l 6 = true) := Lib.hid (by show (okUp l 5 && okG l 5) = true; rw [HUP.out]; unfold okG; rw [HOKW.out.1, decide_eq_true HOKW.out.2, HOF2.out, decide_eq_true HNE.out, decide_eq_true (show nthB l 19 = sgn 5 from HS.out)]; simp)
                  generalize nthB l 19 = XS at *
                  subst hs
                  go_upto_region 18 with fail
                  generalize W' = Wy at *
                  refine region_rely (S := Ext) (fun Wz => Ext Wy Wz) [some 60, some 61, some 62, some 63, some 64, some 65, some 66, some 67, some 68, some 69] [[], [0], [1], [2], [2, 3], [2], [2], [2, 5, 6], [2, 4, 7], [2, 8]] [[], [], [], [], [], [], [], [], [], []] [.one (.string R2), .one (.bool false), .one (.bool false), .one (.string R2), .one (.int .u8 46), .one (.string ⟨#[45, 45, 84, 58, 58, 46]⟩), .one (.int .i64 5), .one (.int .u8 46), .one (.bool false), .one (.bool false)] (by kernel_rfl) (by kernel_rfl) (Ext.refl Wy).drew ?_ ?_
                  · refine stepsR_cons ?_ ?_
                    · intro vs W' hl hI hd ho
                      refine hold ?_
                      obtain ⟨x0, x1, x2, x3, x4, x5, x6, x7, x8, x9, rfl⟩ := lenlit10 hl; clear hl
                      refine held ?_
                      simp only [putAll, Act.put, List.setIfInBounds_toArray, List.set_cons_succ, List.set_cons_zero]
                      go_wp2_with fail
                      exact rely_done _ rfl rfl (Ext.refl _) hI
                    refine stepsR_cons ?_ ?_
                    · intro vs W' hl hI hd ho
                      refine hold ?_
                      obtain ⟨x0, x1, x2, x3, x4, x5, x6, x7, x8, x9, rfl⟩ := lenlit10 hl; clear hl
                      simp only [factsR, atR, List.getElem?_cons_succ, List.getElem?_cons_zero, Rel.one, Rel.blk] at hd
                      obtain ⟨rfl, -⟩ := hd
                      refine held ?_
                      simp only [putAll, Act.put, List.setIfInBounds_toArray, List.set_cons_succ, List.set_cons_zero]
                      go_wp2_with fail
                      exact rely_done _ rfl (congrArg Value.bool HEM.out) (Ext.refl _) hI
                    refine stepsR_cons ?_ ?_
                    · intro vs W' hl hI hd ho
                      refine hold ?_
                      obtain ⟨x0, x1, x2, x3, x4, x5, x6, x7, x8, x9, rfl⟩ := lenlit10 hl; clear hl
                      simp only [factsR, atR, List.getElem?_cons_succ, List.getElem?_cons_zero, Rel.one, Rel.blk] at hd
                      obtain ⟨rfl, -⟩ := hd
                      refine held ?_
                      simp only [putAll, Act.put, List.setIfInBounds_toArray, List.set_cons_succ, List.set_cons_zero]
                      go_wp2_with fail
                      exact rely_done _ rfl rfl (Ext.refl _) hI
                    refine stepsR_cons ?_ ?_
                    · intro vs W' hl hI hd ho
                      refine hold ?_
                      obtain ⟨x0, x1, x2, x3, x4, x5, x6, x7, x8, x9, rfl⟩ := lenlit10 hl; clear hl
                      simp only [factsR, atR, List.getElem?_cons_succ, List.getElem?_cons_zero, Rel.one, Rel.blk] at hd
                      obtain ⟨rfl, -⟩ := hd
                      refine held ?_
                      simp only [putAll, Act.put, List.setIfInBounds_toArray, List.set_cons_succ, List.set_cons_zero]
                      go_wp2_with fail
                      exact rely_done _ rfl rfl (Ext.refl _) hI
                    refine stepsR_cons ?_ ?_
                    · intro vs W' hl hI hd ho
                      refine hold ?_
                      obtain ⟨x0, x1, x2, x3, x4, x5, x6, x7, x8, x9, rfl⟩ := lenlit10 hl; clear hl
                      simp only [factsR, atR, List.getElem?_cons_succ, List.getElem?_cons_zero, Rel.one, Rel.blk] at hd
                      obtain ⟨rfl, rfl, -⟩ := hd
                      refine held ?_
                      simp only [putAll, Act.put, List.setIfInBounds_toArray, List.set_cons_succ, List.set_cons_zero]
                      go_wp2_with fail
                      exact rely_done _ rfl rfl (Ext.refl _) hI
                    refine stepsR_cons ?_ ?_
                    · intro vs W' hl hI hd ho
                      refine hold ?_
                      obtain ⟨x0, x1, x2, x3, x4, x5, x6, x7, x8, x9, rfl⟩ := lenlit10 hl; clear hl
                      simp only [factsR, atR, List.getElem?_cons_succ, List.getElem?_cons_zero, Rel.one, Rel.blk] at hd
                      obtain ⟨rfl, -⟩ := hd
                      refine held ?_
                      simp only [putAll, Act.put, List.setIfInBounds_toArray, List.set_cons_succ, List.set_cons_zero]
                      go_wp2_with fail
                      exact rely_done _ rfl rfl (Ext.refl _) hI
                    refine stepsR_cons ?_ ?_
                    · intro vs W' hl hI hd ho
                      refine hold ?_
                      obtain ⟨x0, x1, x2, x3, x4, x5, x6, x7, x8, x9, rfl⟩ := lenlit10 hl; clear hl
                      simp only [factsR, atR, List.getElem?_cons_succ, List.getElem?_cons_zero, Rel.one, Rel.blk] at hd
                      obtain ⟨rfl, -⟩ := hd
                      refine held ?_
                      simp only [putAll, Act.put, List.setIfInBounds_toArray, List.set_cons_succ, List.set_cons_zero]
                      go_wp2_with fail
                      exact rely_done _ rfl rfl (Ext.refl _) hI
                    refine stepsR_cons ?_ ?_
                    · intro vs W' hl hI hd ho
                      refine hold ?_
                      obtain ⟨x0, x1, x2, x3, x4, x5, x6, x7, x8, x9, rfl⟩ := lenlit10 hl; clear hl
                      simp only [factsR, atR, List.getElem?_cons_succ, List.getElem?_cons_zero, Rel.one, Rel.blk] at hd
                      obtain ⟨rfl, rfl, rfl, -⟩ := hd
                      refine held ?_
                      simp only [putAll, Act.put, List.setIfInBounds_toArray, List.set_cons_succ, List.set_cons_zero]
                      go_wp2_with fail
                      exact rely_done _ rfl rfl (Ext.refl _) hI
                    refine stepsR_cons ?_ ?_
                    · intro vs W' hl hI hd ho
                      refine hold ?_
                      obtain ⟨x0, x1, x2, x3, x4, x5, x6, x7, x8, x9, rfl⟩ := lenlit10 hl; clear hl
                      simp only [factsR, atR, List.getElem?_cons_succ, List.getElem?_cons_zero, Rel.one, Rel.blk] at hd
                      obtain ⟨rfl, rfl, rfl, -⟩ := hd
                      refine held ?_
                      simp only [putAll, Act.put, List.setIfInBounds_toArray, List.set_cons_succ, List.set_cons_zero]
                      go_wp2_with fail
                      exact rely_done _ rfl rfl (Ext.refl _) hI
                    refine stepsR_cons ?_ ?_
                    · intro vs W' hl hI hd ho
                      refine hold ?_
                      obtain ⟨x0, x1, x2, x3, x4, x5, x6, x7, x8, x9, rfl⟩ := lenlit10 hl; clear hl
                      simp only [factsR, atR, List.getElem?_cons_succ, List.getElem?_cons_zero, Rel.one, Rel.blk] at hd
                      obtain ⟨rfl, rfl, -⟩ := hd
                      refine held ?_
                      simp only [putAll, Act.put, List.setIfInBounds_toArray, List.set_cons_succ, List.set_cons_zero]
                      go_wp2_with fail
                      exact rely_done _ rfl rfl (Ext.refl _) hI
                    exact trivial
                  · intro vs W' hl hI hd
                    obtain ⟨x0, x1, x2, x3, x4, x5, x6, x7, x8, x9, rfl⟩ := lenlit10 hl; clear hl
                    simp only [List.length_cons, List.length_nil, List.range, List.range.loop, Nat.zero_add, Nat.reduceAdd, factsR, atR, List.getElem?_cons_succ, List.getElem?_cons_zero, Rel.one, Rel.blk] at hd
                    obtain ⟨rfl, rfl, rfl, rfl, rfl, rfl, rfl, rfl, rfl, rfl, -⟩ := hd
                    simp only [putAll, Act.put, List.setIfInBounds_toArray, List.set_cons_succ, List.set_cons_zero]
                    replace hx := hx.trans hI
                    go_wp2_with fail
                    exact ⟨⟨6, _, c3, by omega, by simp, rfl, rfl, by rw [HPV.out]; exact h3.ext hI, HUP2.out, hx⟩, by simp only [intOf]; omega⟩
                · have hno : Hid (fmtB l = false) := Lib.hid (fmtB_no (k := 5) (by decide) (by unfold okG; rw [decide_eq_false (show ¬ 5 = 6 by decide), HOF2.out, decide_eq_false (show ¬ nthB l 19 = sgn 5 from hs)]; simp))
                  generalize nthB l 19 = XS at *
                  have HSN := Lib.hid hs
                  clear hs
                  go_upto_region 18 with fail
                  generalize W' = Wy at *
                  refine region_rely (S := Ext) (fun Wz => Ext Wy Wz) [some 60, some 61, some 62, some 63, some 64, some 65, some 66, some 67, some 68, some 69] [[], [0], [1], [2], [2, 3], [2], [2], [2, 5, 6], [2, 4, 7], [2, 8]] [[], [], [], [], [], [], [], [], [], []] [.one (.string R2), .one (.bool false), .one (.bool false), .one (.string R2), .one (.int .u8 XS), .one (.string ⟨#[45, 45, 84, 58, 58, 46]⟩), .one (.int .i64 5), .one (.int .u8 46), .one (.bool true), .one (.bool true)] (by kernel_rfl) (by kernel_rfl) (Ext.refl Wy).drew ?_ ?_
                  · refine stepsR_cons ?_ ?_
                    · intro vs W' hl hI hd ho
                      refine hold ?_
                      obtain ⟨x0, x1, x2, x3, x4, x5, x6, x7, x8, x9, rfl⟩ := lenlit10 hl; clear hl
                      refine held ?_
                      simp only [putAll, Act.put, List.setIfInBounds_toArray, List.set_cons_succ, List.set_cons_zero]
                      go_wp2_with fail
                      exact rely_done _ rfl rfl (Ext.refl _) hI
                    refine stepsR_cons ?_ ?_
                    · intro vs W' hl hI hd ho
                      refine hold ?_
                      obtain ⟨x0, x1, x2, x3, x4, x5, x6, x7, x8, x9, rfl⟩ := lenlit10 hl; clear hl
                      simp only [factsR, atR, List.getElem?_cons_succ, List.getElem?_cons_zero, Rel.one, Rel.blk] at hd
                      obtain ⟨rfl, -⟩ := hd
                      refine held ?_
                      simp only [putAll, Act.put, List.setIfInBounds_toArray, List.set_cons_succ, List.set_cons_zero]
                      go_wp2_with fail
                      exact rely_done _ rfl (congrArg Value.bool HEM.out) (Ext.refl _) hI
                    refine stepsR_cons ?_ ?_
                    · intro vs W' hl hI hd ho
                      refine hold ?_
                      obtain ⟨x0, x1, x2, x3, x4, x5, x6, x7, x8, x9, rfl⟩ := lenlit10 hl; clear hl
                      simp only [factsR, atR, List.getElem?_cons_succ, List.getElem?_cons_zero, Rel.one, Rel.blk] at hd
                      obtain ⟨rfl, -⟩ := hd
                      refine held ?_
                      simp only [putAll, Act.put, List.setIfInBounds_toArray, List.set_cons_succ, List.set_cons_zero]
                      go_wp2_with fail
                      exact rely_done _ rfl rfl (Ext.refl _) hI
                    refine stepsR_cons ?_ ?_
                    · intro vs W' hl hI hd ho
                      refine hold ?_
                      obtain ⟨x0, x1, x2, x3, x4, x5, x6, x7, x8, x9, rfl⟩ := lenlit10 hl; clear hl
                      simp only [factsR, atR, List.getElem?_cons_succ, List.getElem?_cons_zero, Rel.one, Rel.blk] at hd
                      obtain ⟨rfl, -⟩ := hd
                      refine held ?_
                      simp only [putAll, Act.put, List.setIfInBounds_toArray, List.set_cons_succ, List.set_cons_zero]
                      go_wp2_with fail
                      exact rely_done _ rfl rfl (Ext.refl _) hI
                    refine stepsR_cons ?_ ?_
                    · intro vs W' hl hI hd ho
                      refine hold ?_
                      obtain ⟨x0, x1, x2, x3, x4, x5, x6, x7, x8, x9, rfl⟩ := lenlit10 hl; clear hl
                      simp only [factsR, atR, List.getElem?_cons_succ, List.getElem?_cons_zero, Rel.one, Rel.blk] at hd
                      obtain ⟨rfl, rfl, -⟩ := hd
                      refine held ?_
                      simp only [putAll, Act.put, List.setIfInBounds_toArray, List.set_cons_succ, List.set_cons_zero]
                      go_wp2_with fail
                      exact rely_done _ rfl rfl (Ext.refl _) hI
                    refine stepsR_cons ?_ ?_
                    · intro vs W' hl hI hd ho
                      refine hold ?_
                      obtain ⟨x0, x1, x2, x3, x4, x5, x6, x7, x8, x9, rfl⟩ := lenlit10 hl; clear hl
                      simp only [factsR, atR, List.getElem?_cons_succ, List.getElem?_cons_zero, Rel.one, Rel.blk] at hd
                      obtain ⟨rfl, -⟩ := hd
                      refine held ?_
                      simp only [putAll, Act.put, List.setIfInBounds_toArray, List.set_cons_succ, List.set_cons_zero]
                      go_wp2_with fail
                      exact rely_done _ rfl rfl (Ext.refl _) hI
                    refine stepsR_cons ?_ ?_
                    · intro vs W' hl hI hd ho
                      refine hold ?_
                      obtain ⟨x0, x1, x2, x3, x4, x5, x6, x7, x8, x9, rfl⟩ := lenlit10 hl; clear hl
                      simp only [factsR, atR, List.getElem?_cons_succ, List.getElem?_cons_zero, Rel.one, Rel.blk] at hd
                      obtain ⟨rfl, -⟩ := hd
                      refine held ?_
                      simp only [putAll, Act.put, List.setIfInBounds_toArray, List.set_cons_succ, List.set_cons_zero]
                      go_wp2_with fail
                      exact rely_done _ rfl rfl (Ext.refl _) hI
                    refine stepsR_cons ?_ ?_
                    · intro vs W' hl hI hd ho
                      refine hold ?_
                      obtain ⟨x0, x1, x2, x3, x4, x5, x6, x7, x8, x9, rfl⟩ := lenlit10 hl; clear hl
                      simp only [factsR, atR, List.getElem?_cons_succ, List.getElem?_cons_zero, Rel.one, Rel.blk] at hd
                      obtain ⟨rfl, rfl, rfl, -⟩ := hd
                      refine held ?_
                      simp only [putAll, Act.put, List.setIfInBounds_toArray, List.set_cons_succ, List.set_cons_zero]
                      go_wp2_with fail
                      exact rely_done _ rfl rfl (Ext.refl _) hI
                    refine stepsR_cons ?_ ?_
                    · intro vs W' hl hI hd ho
                      refine hold ?_
                      obtain ⟨x0, x1, x2, x3, x4, x5, x6, x7, x8, x9, rfl⟩ := lenlit10 hl; clear hl
                      simp only [factsR, atR, List.getElem?_cons_succ, List.getElem?_cons_zero, Rel.one, Rel.blk] at hd
                      obtain ⟨rfl, rfl, rfl, -⟩ := hd
                      refine held ?_
                      simp only [putAll, Act.put, List.setIfInBounds_toArray, List.set_cons_succ, List.set_cons_zero]
                      go_wp2_with fail
                      exact rely_done _ rfl (congrArg Value.bool (bne_iff_ne.2 HSN.out)) (Ext.refl _) hI
                    refine stepsR_cons ?_ ?_
                    · intro vs W' hl hI hd ho
                      refine hold ?_
                      obtain ⟨x0, x1, x2, x3, x4, x5, x6, x7, x8, x9, rfl⟩ := lenlit10 hl; clear hl
                      simp only [factsR, atR, List.getElem?_cons_succ, List.getElem?_cons_zero, Rel.one, Rel.blk] at hd
                      obtain ⟨rfl, rfl, -⟩ := hd
                      refine held ?_
                      simp only [putAll, Act.put, List.setIfInBounds_toArray, List.set_cons_succ, List.set_cons_zero]
                      go_wp2_with fail
                      exact rely_done _ rfl rfl (Ext.refl _) hI
                    exact trivial
                  · intro vs W' hl hI hd
                    obtain ⟨x0, x1, x2, x3, x4, x5, x6, x7, x8, x9, rfl⟩ := lenlit10 hl; clear hl
                    simp only [List.length_cons, List.length_nil, List.range, List.range.loop, Nat.zero_add, Nat.reduceAdd, factsR, atR, List.getElem?_cons_succ, List.getElem?_cons_zero, Rel.one, Rel.blk] at hd
                    obtain ⟨rfl, rfl, rfl, rfl, rfl, rfl, rfl, rfl, rfl, rfl, -⟩ := hd
                    simp only [putAll, Act.put, List.setIfInBounds_toArray, List.set_cons_succ, List.set_cons_zero]
                    replace hx := hx.trans hI
                    go_wp2_with fail
                    (try rw [Exit.noGoto_ret])
                    go_ret2
                    exact ⟨none, 0, 0, false, rfl, hx, hno.out.symm, fun h => by cases h⟩
              · have hno : Hid (fmtB l = false) := Lib.hid (fmtB_no (k := 5) (by decide) (by unfold okG; rw [decide_eq_false (show ¬ 5 = 6 by decide), HOF2.out, decide_eq_false hne]; simp))
                have hemp : (mkS (l.drop 19)).toList.isEmpty = true := by
                  rw [HXT.out, List.drop_of_length_le (by omega)]; rfl
                clear hRZ2 HXA HXB HXT
                generalize mkS (l.drop 19) = R2 at *
                have HEM := Lib.hid hemp
                clear hemp
                go_upto_region 18 with fail
                generalize W' = Wy at *
                refine region_rely (S := Ext) (fun Wz => Ext Wy Wz) [some 60, some 61, some 62, some 63, some 64, some 65, some 66, some 67, some 68, some 69] [[], [0], [1], [2], [2, 3], [2], [2], [2, 5, 6], [2, 4, 7], [2, 8]] [[], [], [], [], [], [], [], [], [], []] [.one (.string R2), .one (.bool true), .one (.bool true), .one (undef), .one (undef), .one (undef), .one (undef), .one (undef), .one (undef), .one (.bool true)] (by kernel_rfl) (by kernel_rfl) (Ext.refl Wy).drew ?_ ?_
                · refine stepsR_cons ?_ ?_
                  · intro vs W' hl hI hd ho
                    refine hold ?_
                    obtain ⟨x0, x1, x2, x3, x4, x5, x6, x7, x8, x9, rfl⟩ := lenlit10 hl; clear hl
                    refine held ?_
                    simp only [putAll, Act.put, List.setIfInBounds_toArray, List.set_cons_succ, List.set_cons_zero]
                    go_wp2_with fail
                    exact rely_done _ rfl rfl (Ext.refl _) hI
                  refine stepsR_cons ?_ ?_
                  · intro vs W' hl hI hd ho
                    refine hold ?_
                    obtain ⟨x0, x1, x2, x3, x4, x5, x6, x7, x8, x9, rfl⟩ := lenlit10 hl; clear hl
                    simp only [factsR, atR, List.getElem?_cons_succ, List.getElem?_cons_zero, Rel.one, Rel.blk] at hd
                    obtain ⟨rfl, -⟩ := hd
                    refine held ?_
                    simp only [putAll, Act.put, List.setIfInBounds_toArray, List.set_cons_succ, List.set_cons_zero]
                    go_wp2_with fail
                    exact rely_done _ rfl (congrArg Value.bool HEM.out) (Ext.refl _) hI
                  refine stepsR_cons ?_ ?_
                  · intro vs W' hl hI hd ho
                    refine hold ?_
                    obtain ⟨x0, x1, x2, x3, x4, x5, x6, x7, x8, x9, rfl⟩ := lenlit10 hl; clear hl
                    simp only [factsR, atR, List.getElem?_cons_succ, List.getElem?_cons_zero, Rel.one, Rel.blk] at hd
                    obtain ⟨rfl, -⟩ := hd
                    refine held ?_
                    simp only [putAll, Act.put, List.setIfInBounds_toArray, List.set_cons_succ, List.set_cons_zero]
                    go_wp2_with fail
                    exact rely_done _ rfl rfl (Ext.refl _) hI
                  refine stepsR_cons ?_ ?_
                  · intro vs W' hl hI hd ho
                    refine hold ?_
                    obtain ⟨x0, x1, x2, x3, x4, x5, x6, x7, x8, x9, rfl⟩ := lenlit10 hl; clear hl
                    simp only [factsR, atR, List.getElem?_cons_succ, List.getElem?_cons_zero, Rel.one, Rel.blk] at hd
                    obtain ⟨rfl, -⟩ := hd
                    refine held ?_
                    simp only [putAll, Act.put, List.setIfInBounds_toArray, List.set_cons_succ, List.set_cons_zero]
                    skip
                    exact rely_undef (by rfl) rfl rfl (Ext.refl _) hI
                  refine stepsR_cons ?_ ?_
                  · intro vs W' hl hI hd ho
                    refine hold ?_
                    obtain ⟨x0, x1, x2, x3, x4, x5, x6, x7, x8, x9, rfl⟩ := lenlit10 hl; clear hl
                    simp only [factsR, atR, List.getElem?_cons_succ, List.getElem?_cons_zero, Rel.one, Rel.blk] at hd
                    obtain ⟨rfl, rfl, -⟩ := hd
                    refine held ?_
                    simp only [putAll, Act.put, List.setIfInBounds_toArray, List.set_cons_succ, List.set_cons_zero]
                    skip
                    exact rely_undef (by rfl) rfl rfl (Ext.refl _) hI
                  refine stepsR_cons ?_ ?_
                  · intro vs W' hl hI hd ho
                    refine hold ?_
                    obtain ⟨x0, x1, x2, x3, x4, x5, x6, x7, x8, x9, rfl⟩ := lenlit10 hl; clear hl
                    simp only [factsR, atR, List.getElem?_cons_succ, List.getElem?_cons_zero, Rel.one, Rel.blk] at hd
                    obtain ⟨rfl, -⟩ := hd
                    refine held ?_
                    simp only [putAll, Act.put, List.setIfInBounds_toArray, List.set_cons_succ, List.set_cons_zero]
                    skip
                    exact rely_undef (by rfl) rfl rfl (Ext.refl _) hI
                  refine stepsR_cons ?_ ?_
                  · intro vs W' hl hI hd ho
                    refine hold ?_
                    obtain ⟨x0, x1, x2, x3, x4, x5, x6, x7, x8, x9, rfl⟩ := lenlit10 hl; clear hl
                    simp only [factsR, atR, List.getElem?_cons_succ, List.getElem?_cons_zero, Rel.one, Rel.blk] at hd
                    obtain ⟨rfl, -⟩ := hd
                    refine held ?_
                    simp only [putAll, Act.put, List.setIfInBounds_toArray, List.set_cons_succ, List.set_cons_zero]
                    skip
                    exact rely_undef (by rfl) rfl rfl (Ext.refl _) hI
                  refine stepsR_cons ?_ ?_
                  · intro vs W' hl hI hd ho
                    refine hold ?_
                    obtain ⟨x0, x1, x2, x3, x4, x5, x6, x7, x8, x9, rfl⟩ := lenlit10 hl; clear hl
                    simp only [factsR, atR, List.getElem?_cons_succ, List.getElem?_cons_zero, Rel.one, Rel.blk] at hd
                    obtain ⟨rfl, rfl, rfl, -⟩ := hd
                    refine held ?_
                    simp only [putAll, Act.put, List.setIfInBounds_toArray, List.set_cons_succ, List.set_cons_zero]
                    skip
                    exact rely_undef (by rfl) rfl rfl (Ext.refl _) hI
                  refine stepsR_cons ?_ ?_
                  · intro vs W' hl hI hd ho
                    refine hold ?_
                    obtain ⟨x0, x1, x2, x3, x4, x5, x6, x7, x8, x9, rfl⟩ := lenlit10 hl; clear hl
                    simp only [factsR, atR, List.getElem?_cons_succ, List.getElem?_cons_zero, Rel.one, Rel.blk] at hd
                    obtain ⟨rfl, rfl, rfl, -⟩ := hd
                    refine held ?_
                    simp only [putAll, Act.put, List.setIfInBounds_toArray, List.set_cons_succ, List.set_cons_zero]
                    skip
                    exact rely_undef (by rfl) rfl rfl (Ext.refl _) hI
                  refine stepsR_cons ?_ ?_
                  · intro vs W' hl hI hd ho
                    refine hold ?_
                    obtain ⟨x0, x1, x2, x3, x4, x5, x6, x7, x8, x9, rfl⟩ := lenlit10 hl; clear hl
                    simp only [factsR, atR, List.getElem?_cons_succ, List.getElem?_cons_zero, Rel.one, Rel.blk] at hd
                    obtain ⟨rfl, rfl, -⟩ := hd
                    refine held ?_
                    simp only [putAll, Act.put, List.setIfInBounds_toArray, List.set_cons_succ, List.set_cons_zero]
                    go_wp2_with fail
                    exact rely_done _ rfl rfl (Ext.refl _) hI
                  exact trivial
                · intro vs W' hl hI hd
                  obtain ⟨x0, x1, x2, x3, x4, x5, x6, x7, x8, x9, rfl⟩ := lenlit10 hl; clear hl
                  simp only [List.length_cons, List.length_nil, List.range, List.range.loop, Nat.zero_add, Nat.reduceAdd, factsR, atR, List.getElem?_cons_succ, List.getElem?_cons_zero, Rel.one, Rel.blk] at hd
                  obtain ⟨rfl, rfl, rfl, rfl, rfl, rfl, rfl, rfl, rfl, rfl, -⟩ := hd
                  simp only [putAll, Act.put, List.setIfInBounds_toArray, List.set_cons_succ, List.set_cons_zero]
                  replace hx := hx.trans hI
                  go_wp2_with fail
                  (try rw [Exit.noGoto_ret])
                  go_ret2
                  exact ⟨none, 0, 0, false, rfl, hx, hno.out.symm, fun h => by cases h⟩
      · have hno : Hid (fmtB l = false) := Lib.hid (fmtB_no (k := 5) (by decide) (by unfold okG; rw [HOF.out]; rw [decide_eq_false (by rw [HWD.out]; exact hlen)]; rfl))
        have q1 : (RZ : Int) < 2 := by omega
        generalize mkS (l.drop 17) = R at *
        clear hX1 hX2 hR0
        go_wp2_with fail
        (try rw [Exit.noGoto_ret])
        go_ret2
        exact ⟨none, 0, 0, false, rfl, hx, hno.out.symm, fun h => by cases h⟩
    · have p := hdr.c 6 _ rfl
      have hof : off 6 = 20 := rfl
      have HOF := Lib.hid hof
      have hwd : wid 6 = 6 := rfl
      have HWD := Lib.hid hwd
      rw [hof]
      obtain ⟨RZ, hRZ⟩ : ∃ RZ, l.length - 20 = RZ := ⟨_, rfl⟩
      have hRz : (mkS (l.drop 20)).size = RZ := by rw [mkS_size, List.length_drop, hRZ]
      have hX1 : (mkS (l.drop 20)).extract 0 6 = mkS ((l.drop 20).take 6) := by rw [mkS_extract]; simp
      have hX2 : (mkS (l.drop 20)).extract 6 RZ = mkS (l.drop 26) := by
        rw [mkS_extract, List.drop_drop, List.take_of_length_le (by rw [List.length_drop]; omega)]
      by_cases hlen : 20 + 6 ≤ l.length
      · have q1 : (6 : Int) ≤ (RZ : Int) := by omega
        have q2 : ¬ ((RZ : Int) < 6) := by omega
        have hGs : (mkS ((l.drop 20).take 6)).size = 6 := by rw [mkS_size, List.length_take, List.length_drop]; omega
        have hcv := run_bytes_of_string (P := Tryd.prog) wr 9 66 5 (mkS ((l.drop 20).take 6)) (by kernel_rfl) (by kernel_rfl) (by kernel_rfl)
        rw [hGs] at hcv
        have hbc : ∀ j, j < 6 → (wr.drew.alloc (.cells (bytesRow (mkS ((l.drop 20).take 6)) (grownCap wr 6 0 5)) 5 ((bytesRow (mkS ((l.drop 20).take 6)) (grownCap wr 6 0 5)).size, (bytesRow (mkS ((l.drop 20).take 6)) (grownCap wr 6 0 5)).size + 1))).cell? ⟨wr.heap.size, j, none⟩ = some (.int .u8 (nthB l (20 + j))) := fun j hj => by
          rw [← nthB_drop l 20 j, ← nthB_take (l.drop 20) 6 j hj]
          exact bytes_cell wr.drew _ _ _ _ j (by rw [List.length_take, List.length_drop]; omega)
        have hEc : Ext wr (wr.drew.alloc (.cells (bytesRow (mkS ((l.drop 20).take 6)) (grownCap wr 6 0 5)) 5 ((bytesRow (mkS ((l.drop 20).take 6)) (grownCap wr 6 0 5)).size, (bytesRow (mkS ((l.drop 20).take 6)) (grownCap wr 6 0 5)).size + 1))) := (Ext.refl wr).drew.alloc _
        generalize wr.drew.alloc (.cells (bytesRow (mkS ((l.drop 20).take 6)) (grownCap wr 6 0 5)) 5 ((bytesRow (mkS ((l.drop 20).take 6)) (grownCap wr 6 0 5)).size, (bytesRow (mkS ((l.drop 20).take 6)) (grownCap wr 6 0 5)).size + 1)) = W1 at *
        generalize grownCap wr 6 0 5 = CP at *
        generalize hGG : mkS ((l.drop 20).take 6) = GG at *
        clear hGG
        have HBC := Lib.hid hbc
        have HLEN := Lib.hid hlen
        have HX2 := Lib.hid hX2
        have HRZ := Lib.hid hRZ
        have hbl : wr.heap.size = wr.heap.size := rfl
        obtain ⟨bb, hbb⟩ : ∃ bb, wr.heap.size = bb := ⟨_, rfl⟩
        rw [hbb] at hcv HBC
        clear hbc hlen hX2 hR0 hbl hbb
        generalize mkS (l.drop 20) = R at *
        go_wp2_with fail
        go_loopw [12, 32] (fun nn j wq => ∃ (i : Nat), i ≤ 6 ∧ j = .int .i64 (i : Int) ∧ nn = .int .i64 (numB l 20 i) ∧ allB l 20 i = true ∧ Ext W1 wq) (fun _ j _ => 6 - (intOf j).toNat)
        case atStart => exact ⟨0, by omega, rfl, rfl, rfl, Ext.refl _⟩
        case round =>
          obtain ⟨i, hi, rfl, rfl, hal, hy⟩ := hrel
          have hEq := hEc.trans hy
          have HAL := Lib.hid hal
          have hnb := numB_bd hal
          have hpow : (10 : Int) ^ i ≤ 1000000 := by
            have := Nat.pow_le_pow_right (show 0 < 10 by decide) (show i ≤ 6 by omega)
            have h2 : ((10 ^ i : Nat) : Int) ≤ ((10 ^ 6 : Nat) : Int) := by exact_mod_cast this
            simpa using h2
          have hnb2 : 0 ≤ numB l 20 i ∧ numB l 20 i < 1000000 := by omega
          clear hal hnb hpow
          by_cases hlt2 : i < 6
          · have c8 := hy.cell (HBC.out i hlt2)
            have HNS : Hid (numB l 20 (i + 1) = 10 * numB l 20 i + (nthB l (20 + i) - 48)) := Lib.hid rfl
            have hbb2 := nthB_bd l (20 + i)
            have HAS : Hid (digB (nthB l (20 + i)) = true → allB l 20 (i + 1) = true) := Lib.hid (fun h => by simp only [allB]; rw [HAL.out, h]; rfl)
            have HAN : Hid (digB (nthB l (20 + i)) = false → allB l 20 6 = false) := Lib.hid (fun h => allB_not hlt2 h)
            generalize numB l 20 i = NN at *
            generalize nthB l (20 + i) = XB at *
            by_cases hd1 : 48 ≤ XB
            · by_cases hd2 : XB ≤ 57
              · have hd1' : ¬ XB < 48 := by omega
                have hd2' : ¬ 57 < XB := by omega
                have HDG := Lib.hid (HAS.out (digB_iff.2 ⟨hd1, hd2⟩))
                go_wp2_with fail
                exact ⟨⟨i + 1, by omega, by go_num, by rw [HNS.out], HDG.out, hy⟩, by simp only [intOf]; omega⟩
              · have hd2' : 57 < XB := by omega
                have hd1' : ¬ XB < 48 := by omega
                have hf := HAN.out (by rw [Bool.eq_false_iff]; exact fun h => hd2 (digB_iff.1 h).2)
                have hno : Hid (fmtB l = false) := Lib.hid (fmtB_no (k := 6) (by decide) (by unfold okG; rw [HOF.out]; rw [HWD.out, hf]; simp))
                clear hf
                go_wp2_with fail
                (try rw [Exit.noGoto_ret])
                go_ret2
                exact ⟨none, 0, 0, false, rfl, hx.trans hEq, hno.out.symm, fun h => by cases h⟩
            · have hd1' : XB < 48 := by omega
              have hf := HAN.out (by rw [Bool.eq_false_iff]; exact fun h => hd1 (digB_iff.1 h).1)
              have hno : Hid (fmtB l = false) := Lib.hid (fmtB_no (k := 6) (by decide) (by unfold okG; rw [HOF.out]; rw [HWD.out, hf]; simp))
              clear hf
              go_wp2_with fail
              (try rw [Exit.noGoto_ret])
              go_ret2
              exact ⟨none, 0, 0, false, rfl, hx.trans hEq, hno.out.symm, fun h => by cases h⟩
          · obtain rfl : i = 6 := by omega
            have hNV : valB l 6 = numB l 20 6 := rfl
            have hPV : valsB l 7 = valsB l 6 ++ [valB l 6] := rfl
            rw [hNV] at hPV
            have HPV := Lib.hid hPV
            clear hNV hPV
            have ho2 := ho.ext hEq
            have hxq := hx.trans hEq
            generalize numB l 20 6 = NV at *
            generalize valsB l 6 = PV at *
            have hwNV : (Lit.int .i64 NV).wf = true := wfi (by omega) (by omega)
            have hX2 := HX2.out
            go_upto_region 16 with fail
            have hEz := hxq
            have HOKW : Hid (allB l (off 6) (wid 6) = true ∧ off 6 + wid 6 ≤ l.length) := Lib.hid ⟨HAL.out, HLEN.out⟩
            clear hxq hEq hy hEc hx hcv HBC HAL hdr p q2
            have hoZ := ho2
            have hB0 := hEz.sz
            clear ho2 ho
            generalize wr = Vz at *
            refine region_relyF (fun listed W' => Ext w W' ∧ (listed 3 = false → Ext Vz W')) [some 49, some 50, some 51, some 52, some 53, some 54, some 55, some 8, some 9] [[], [], [1], [0, 1, 2], [], [], [4, 5], [0, 1, 2, 3], [0, 1, 2, 3, 4, 5, 6, 7]] [[], [], [1], [0, 2], [], [], [4, 5], [3], [6]] [none, none, none, none, none, none, none, some 3, none] [false, false, false, false, false, false, false, false, false] [.one (.slice aa 6 cc), .one (.int .i64 NV), RLi Vz.heap.size #[.int .i64 NV], RNi w.heap.size 7 (PV ++ [NV]), .one (.string R), .one (.int .i64 6), .one (.string (mkS (l.drop 26))), RSm 3, .one (.string (mkS (l.drop 26)))] (by kernel_rfl) (by kernel_rfl) rfl ⟨hEz.drew, fun _ => (Ext.refl Vz).drew⟩ ?_ ?_
            · refine stepsF_cons ?_ ?_
              · intro listed vs W' hl hI hd hs hn hu hz ho9
                refine hold ?_
                obtain ⟨x0, x1, x2, x3, x4, x5, x6, x7, x8, rfl⟩ := lenlit9 hl; clear hl
                refine held ?_
                simp only [putAll, Act.put, List.setIfInBounds_toArray, List.set_cons_succ, List.set_cons_zero]
                have h7z : listed 7 = false := by cases h : listed 7 with | false => rfl | true => exact absurd (by decide) (hu 7 h)
                obtain rfl : x7 = .slice aa 6 cc := ho9 7 (some 8) x7 h7z rfl rfl
                go_wp2_with fail
                exact relyE_done _ rfl rfl (Ext.refl _) ⟨hI.1, fun h => hI.2 (updE_false h)⟩
              refine stepsF_cons ?_ ?_
              · intro listed vs W' hl hI hd hs hn hu hz ho9
                refine hold ?_
                obtain ⟨x0, x1, x2, x3, x4, x5, x6, x7, x8, rfl⟩ := lenlit9 hl; clear hl
                refine held ?_
                simp only [putAll, Act.put, List.setIfInBounds_toArray, List.set_cons_succ, List.set_cons_zero]
                go_wp2_with fail
                exact relyE_done _ rfl rfl (Ext.refl _) ⟨hI.1, fun h => hI.2 (updE_false h)⟩
              refine stepsF_cons ?_ ?_
              · intro listed vs W' hl hI hd hs hn hu hz ho9
                refine hold ?_
                obtain ⟨x0, x1, x2, x3, x4, x5, x6, x7, x8, rfl⟩ := lenlit9 hl; clear hl
                simp only [factsL, atL, refV, List.getElem?_cons_succ, List.getElem?_cons_zero, List.getD_cons_succ, List.getD_cons_zero, RelL.one, RelL.any, RelL.blk, RelL.law, RNi, RLi, RSm] at hd
                obtain ⟨rfl, -⟩ := hd
                refine held ?_
                simp only [putAll, Act.put, List.setIfInBounds_toArray, List.set_cons_succ, List.set_cons_zero]
                go_wp2_with fail
                have h3z : listed 3 = false := by cases h : listed 3 with | false => rfl | true => exact absurd (by decide) (hu 3 h)
                exact relyE_done _ rfl ⟨_, rfl, (hI.2 h3z).sz, World.alloc_heap_new _ _⟩ ((Ext.refl _).alloc _) ⟨hI.1.alloc _, fun h => (hI.2 (updE_false h)).alloc _⟩
              refine stepsF_cons ?_ ?_
              · intro listed vs W' hl hI hd hs hn hu hz ho9
                refine hold ?_
                obtain ⟨x0, x1, x2, x3, x4, x5, x6, x7, x8, rfl⟩ := lenlit9 hl; clear hl
                simp only [factsL, atL, refV, List.getElem?_cons_succ, List.getElem?_cons_zero, List.getD_cons_succ, List.getD_cons_zero, RelL.one, RelL.any, RelL.blk, RelL.law, RNi, RLi, RSm] at hd
                obtain ⟨rfl, ⟨b2, rfl, hb2, hB2⟩, -⟩ := hd
                refine held ?_
                simp only [putAll, Act.put, List.setIfInBounds_toArray, List.set_cons_succ, List.set_cons_zero]
                have hz2 := hI.2 hz
                have hbz : w.heap.size ≤ W'.heap.size := by have := hz2.sz; have := hB0; omega
                have ho2 := hoZ.ext hz2
                have hlit : Sl .i64 W' (some ⟨b2, 0, none⟩) 1 1 [NV] := lit_of_block (E := 3) hB2 hwNV
                go_wp2_with (at_builtin; refine appSg el_i64 rfl _ _ rfl _ w.heap.size _ _ _ _ rfl ho2 _ _ _ _ rfl hlit (by omega) hbz (by unfold maxLen; omega) (by omega) ?_; intro g3 c3 w3 hop hB hg; refine hold ?_)
                refine held ?_
                exact wpList_nil (relyE_store _ rfl ⟨_, _, rfl, hop⟩ hB.size ⟨fun _ _ h => h, fun _ _ h => h, fun _ _ ⟨b, e1, e2, e3⟩ => ⟨b, e1, e2, (hg.block b (Array.getElem?_eq_some_iff.1 e3).1 (fun e => Nat.lt_irrefl _ (Nat.lt_of_lt_of_le (World.ownsRow.lt hoZ b e.symm).2 e2))).trans e3⟩, fun _ hk _ => absurd rfl hk, fun _ _ h => h, fun _ _ h => h, fun _ _ h => h, fun _ _ h => h, fun _ _ h => h, trivial⟩ ⟨Below.trans hI.1 hB, fun h => by simp [updE] at h⟩)
              refine stepsF_cons ?_ ?_
              · intro listed vs W' hl hI hd hs hn hu hz ho9
                refine hold ?_
                obtain ⟨x0, x1, x2, x3, x4, x5, x6, x7, x8, rfl⟩ := lenlit9 hl; clear hl
                refine held ?_
                simp only [putAll, Act.put, List.setIfInBounds_toArray, List.set_cons_succ, List.set_cons_zero]
                have h7z : listed 8 = false := by cases h : listed 8 with | false => rfl | true => exact absurd (by decide) (hu 8 h)
                obtain rfl : x8 = .string R := ho9 8 (some 9) x8 h7z rfl rfl
                go_wp2_with fail
                exact relyE_done _ rfl rfl (Ext.refl _) ⟨hI.1, fun h => hI.2 (updE_false h)⟩
              refine stepsF_cons ?_ ?_
              · intro listed vs W' hl hI hd hs hn hu hz ho9
                refine hold ?_
                obtain ⟨x0, x1, x2, x3, x4, x5, x6, x7, x8, rfl⟩ := lenlit9 hl; clear hl
                refine held ?_
                simp only [putAll, Act.put, List.setIfInBounds_toArray, List.set_cons_succ, List.set_cons_zero]
                go_wp2_with fail
                exact relyE_done _ rfl rfl (Ext.refl _) ⟨hI.1, fun h => hI.2 (updE_false h)⟩
              refine stepsF_cons ?_ ?_
              · intro listed vs W' hl hI hd hs hn hu hz ho9
                refine hold ?_
                obtain ⟨x0, x1, x2, x3, x4, x5, x6, x7, x8, rfl⟩ := lenlit9 hl; clear hl
                simp only [factsL, atL, refV, List.getElem?_cons_succ, List.getElem?_cons_zero, List.getD_cons_succ, List.getD_cons_zero, RelL.one, RelL.any, RelL.blk, RelL.law, RNi, RLi, RSm] at hd
                obtain ⟨rfl, rfl, -⟩ := hd
                refine held ?_
                simp only [putAll, Act.put, List.setIfInBounds_toArray, List.set_cons_succ, List.set_cons_zero]
                go_wp2_with fail
                exact relyE_done _ rfl rfl (Ext.refl _) ⟨hI.1, fun h => hI.2 (updE_false h)⟩
              refine stepsF_cons ?_ ?_
              · intro listed vs W' hl hI hd hs hn hu hz ho9
                refine hold ?_
                obtain ⟨x0, x1, x2, x3, x4, x5, x6, x7, x8, rfl⟩ := lenlit9 hl; clear hl
                simp only [factsL, atL, refV, List.getElem?_cons_succ, List.getElem?_cons_zero, List.getD_cons_succ, List.getD_cons_zero, RelL.one, RelL.any, RelL.blk, RelL.law, RNi, RLi, RSm] at hd
                obtain ⟨⟨g3, c3, rfl, h3⟩, -⟩ := hd
                refine held ?_
                simp only [putAll, Act.put, List.setIfInBounds_toArray, List.set_cons_succ, List.set_cons_zero]
                go_wp2_with fail
                exact relyE_done _ rfl rfl (Ext.refl _) ⟨hI.1, fun h => hI.2 (updE_false h)⟩
              refine stepsF_cons ?_ ?_
              · intro listed vs W' hl hI hd hs hn hu hz ho9
                refine hold ?_
                obtain ⟨x0, x1, x2, x3, x4, x5, x6, x7, x8, rfl⟩ := lenlit9 hl; clear hl
                simp only [factsL, atL, refV, List.getElem?_cons_succ, List.getElem?_cons_zero, List.getD_cons_succ, List.getD_cons_zero, RelL.one, RelL.any, RelL.blk, RelL.law, RNi, RLi, RSm] at hd
                obtain ⟨rfl, -⟩ := hd
                refine held ?_
                simp only [putAll, Act.put, List.setIfInBounds_toArray, List.set_cons_succ, List.set_cons_zero]
                go_wp2_with fail
                exact relyE_done _ rfl rfl (Ext.refl _) ⟨hI.1, fun h => hI.2 (updE_false h)⟩
              exact trivial
            · intro listed vs W' hl hall hI hd hn
              obtain ⟨x0, x1, x2, x3, x4, x5, x6, x7, x8, rfl⟩ := lenlit9 hl; clear hl
              simp only [List.length_cons, List.length_nil, List.range, List.range.loop, Nat.zero_add, Nat.reduceAdd, factsL, atL, refV, List.getElem?_cons_succ, List.getElem?_cons_zero, List.getD_cons_succ, List.getD_cons_zero, RelL.one, RelL.any, RelL.blk, RelL.law, RNi, RLi, RSm] at hd
              obtain ⟨rfl, rfl, -, ⟨g3, c3, rfl, h3⟩, rfl, rfl, rfl, rfl, rfl, -⟩ := hd
              simp only [putAll, Act.put, List.setIfInBounds_toArray, List.set_cons_succ, List.set_cons_zero]
              have hx := hI.1
              have HUP2 : Hid (okUp l 7 = true) := Lib.hid (by show (okUp l 6 && okG l 6) = true; rw [HUP.out]; unfold okG; rw [HOKW.out.1, decide_eq_true HOKW.out.2]; rfl)
              go_wp2_with fail
              exact ⟨⟨7, _, c3, by omega, by simp, rfl, rfl, by rw [HPV.out]; exact h3, HUP2.out, hx⟩, by simp only [intOf]; omega⟩
      · have hno : Hid (fmtB l = false) := Lib.hid (fmtB_no (k := 6) (by decide) (by unfold okG; rw [HOF.out]; rw [decide_eq_false (by rw [HWD.out]; exact hlen)]; rfl))
        have q1 : (RZ : Int) < 6 := by omega
        generalize mkS (l.drop 20) = R at *
        clear hX1 hX2 hR0
        go_wp2_with fail
        (try rw [Exit.noGoto_ret])
        go_ret2
        exact ⟨none, 0, 0, false, rfl, hx, hno.out.symm, fun h => by cases h⟩
    · rw [show off 7 = 26 from rfl]
      have HT := Lib.hid (mkS_toList (l.drop 26))
      by_cases h26 : l.length ≤ 26
      · have hemp : (mkS (l.drop 26)).toList.isEmpty = true := by rw [HT.out, List.drop_of_length_le h26]; rfl
        have hyes : Hid (fmtB l = true) := Lib.hid (by
          unfold fmtB
          have h6 := okUp_at HUP.out 6 (by decide)
          unfold okG at h6
          simp only [Bool.and_eq_true, decide_eq_true_eq] at h6
          have e1 : off 6 + wid 6 = 26 := rfl
          rw [HUP.out, decide_eq_true (by omega)]; rfl)
        clear h26
        generalize mkS (l.drop 26) = R at *
        go_wp2_with fail
        (try rw [Exit.noGoto_ret])
        go_ret2
        exact ⟨aa, 7, cc, true, by simp [hemp], hx, hyes.out.symm, fun _ => ⟨rfl, ho⟩⟩
      · have hemp : (mkS (l.drop 26)).toList.isEmpty = false := by
          rw [HT.out]
          have : l.drop 26 ≠ [] := fun h => by have := congrArg List.length h; rw [List.length_drop] at this; simp at this; omega
          cases h : l.drop 26 with
          | nil => exact absurd h this
          | cons a b => rfl
        have hno : Hid (fmtB l = false) := Lib.hid (by unfold fmtB; rw [decide_eq_false (by omega)]; simp)
        clear h26
        generalize mkS (l.drop 26) = R at *
        go_wp2_with fail
        (try rw [Exit.noGoto_ret])
        go_ret2
        exact ⟨aa, 7, cc, false, by simp [hemp], hx, hno.out.symm, fun h => by cases h⟩
end Go.Proofs.YtchbeheekahhiaaDoor
