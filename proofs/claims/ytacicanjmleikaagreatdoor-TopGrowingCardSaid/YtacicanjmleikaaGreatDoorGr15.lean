
import Derived.Test.YtacicanjmleikaaGreatDoorGr14
import Derived.Laws.EntriesVeiled
/- A part of the proof. -/
namespace Go.Proofs.YtacicanjmleikaaGreatDoor
open Go.RowKit Go.Sort Go.Shelf
set_option linter.unusedSimpArgs false
set_option linter.unusedVariables false
set_option maxRecDepth 100000
def PubK (k : Int) : Prop := k ≠ 1 ∧ memB k = true
def Keys (ps : List Int) : Prop := ∀ k ∈ ps, PubK k
theorem PubK.ne0 {k : Int} (h : PubK k) : k ≠ 0 := by
 intro e
 have := h.2
 rw [e] at this
 simp [memB] at this
def hd1 : Hd := ⟨1, 1, 0, 0, 0⟩
theorem hd1_ok : hd1.Ok := ⟨by show 1 ≤ (1 : Int) ∧ (1 : Int) ≤ 16; omega, by show 1 ≤ (1 : Int) ∧ (1 : Int) ≤ 4096; omega, by show 0 ≤ (0 : Int) ∧ (0 : Int) ≤ 18446744073709551615; omega, by show 0 ≤ (0 : Int) ∧ (0 : Int) ≤ 1073741788; omega, by show 0 ≤ (0 : Int) ∧ (0 : Int) ≤ 1073741788; omega⟩
theorem kwrong_no (k : Int) (hk : PubK k) (w : World) (ht : TB w) : Calls Tryz.prog 102 #[.int .i64 k] w fun e w' => e = .returned (.bool false) ∧ Ext w w' := by
 have HR := Lib.hid (fun (W : World) (hx : Ext w W) => oright_any k hk.1 hk.2 hd1 hd1_ok W (ht.ext hx))
 unfold hdV hd1 at HR
 simp only at HR
 have g1 : (k == 0) = false := by simp [hk.ne0]
 have g2 := hk.ne0
 clear hk ht
 go_enter Tryz.func102, Tryz.ntmps102
 go_wp2_with (go_at_call 48; refine (HR.out _ (Ext.refl w)).mono ?_; rintro e w1 ⟨rfl, hx1⟩)
 go_ret
 exact ⟨rfl, hx1⟩
theorem kidx_none (a : Option Addr) (n c : Nat) (ps : List Int) (w : World) (h : Sl .i64 w a n c ps) (hk : Keys ps) (ht : TB w) :
  Calls Tryz.prog 112 #[.slice a n c, .func (.func 102) #[] #[]] w fun e w' => e = .returned (.int .i64 (-1)) ∧ Ext w w' := by
 have bd := h.bd
 have HS := Lib.hid h
 have HK := Lib.hid (fun (k : Int) (hk1 : k ∈ ps) (W : World) (hx : Ext w W) => kwrong_no k (hk k hk1) W (ht.ext hx))
 clear h hk ht
 go_enter Tryz.func112, Tryz.ntmps112
 go_wp2_with fail
 go_loopw [8] (fun i wr => ∃ (k : Nat), k ≤ n ∧ i = .int .i64 k ∧ Hid (Ext w wr)) (fun i _ => n - (intOf i).toNat)
 case atStart => exact ⟨0, by omega, rfl, Lib.hid (Ext.refl w)⟩
 case round =>
  obtain ⟨k, hk, rfl, hx⟩ := hrel
  by_cases hlt : k < n
  ·obtain ⟨x1, o1, rfl, hc1⟩ := HS.out.at (by omega)
   have d0 := hx.out.cell (hc1 k hlt)
   have HC := Lib.hid (HK.out (nth ps k) (nth_mem (by rw [HS.out.hlen]; exact hlt)) wr hx.out)
   clear hc1
   generalize nth ps k = x at *
   go_wp2_with (go_at_call 102; refine HC.out.mono ?_; rintro e w2 ⟨rfl, hx2⟩; refine hold ?_)
   refine held ?_
   clear d0
   go_wp2_with fail
   refine ⟨⟨k + 1, by omega, by go_num, Lib.hid (hx.out.trans hx2)⟩, by simp only [intOf]; omega⟩
  ·obtain rfl : n = k := by omega
   go_wp2_with fail
   go_ret
   exact ⟨rfl, hx.out⟩
theorem kcont_no (a : Option Addr) (n c : Nat) (ps : List Int) (w : World) (h : Sl .i64 w a n c ps) (hk : Keys ps) (ht : TB w) :
  Calls Tryz.prog 103 #[.slice a n c, .func (.func 102) #[] #[]] w fun e w' => e = .returned (.bool false) ∧ Ext w w' := by
 have HI := Lib.hid (kidx_none a n c ps w h hk ht)
 clear h hk ht
 go_enter Tryz.func103, Tryz.ntmps103
 go_wp2_with (go_at_call 112; refine HI.out.mono ?_; rintro e w2 ⟨rfl, hx2⟩)
 go_ret
 exact ⟨rfl, hx2⟩
theorem kright_yes (a : Option Addr) (n c : Nat) (ps : List Int) (w : World) (h : Sl .i64 w a n c ps) (hn : n ≤ 16) (hk : Keys ps) (ht : TB w) :
  Calls Tryz.prog 76 #[.slice a n c] w fun e w' => e = .returned (.bool true) ∧ Ext w w' := by
 have HI := Lib.hid (kcont_no a n c ps w h hk ht)
 have g1 : (n : Int) ≤ 16 := by omega
 have g2 : decide ((n : Int) ≤ 16) = true := decide_eq_true g1
 have bd := h.bd
 clear h hk ht
 go_enter Tryz.func76, Tryz.ntmps76
 go_wp2_with (go_at_call 103; refine HI.out.mono ?_; rintro e w2 ⟨rfl, hx2⟩)
 go_ret
 exact ⟨rfl, hx2⟩
structure Sgn (ps : List Int) (h : Hd) : Prop where
 ok : h.Ok
 lt : h.o ≤ ps.length
 right : rightH (nth ps (h.o.toNat - 1)) h = true
theorem ksigned_yes (a : Option Addr) (n c : Nat) (ps : List Int) (h : Hd) (w : World) (hp : Sl .i64 w a n c ps) (hk : Keys ps) (hs : Sgn ps h) (ht : TB w) :
  Calls Tryz.prog 79 #[.slice a n c, hdV h] w fun e w' => e = .returned (.bool true) ∧ Ext w w' := by
 have ho := hs.ok.o
 have hln := hs.lt
 rw [hp.hlen] at hln
 have bd := hp.bd
 obtain ⟨m, hm⟩ : ∃ m : Nat, h.o - 1 = m := ⟨(h.o - 1).toNat, by omega⟩
 have hmn : m < n := by omega
 have hidx : h.o.toNat - 1 = m := by omega
 have HR0 := hs.right
 rw [hidx] at HR0
 have hkm : PubK (nth ps m) := hk _ (nth_mem (by rw [hp.hlen]; exact hmn))
 have HR := Lib.hid (fun (W : World) (hx : Ext w W) => oright_any (nth ps m) hkm.1 hkm.2 h hs.ok W (ht.ext hx))
 rw [HR0] at HR
 have HOK := Lib.hid hs.ok
 obtain ⟨x1, o1, rfl, hc⟩ := hp.at (by omega)
 have d0 := hc m hmn
 have g1 : (nth ps m == 0) = false := by simp [hkm.ne0]
 have g2 := hkm.ne0
 generalize nth ps m = pk at *
 unfold hdV at HR ⊢
 have hB := Bk.new w 34 #[.int .i64 h.o, .int .i64 h.s, .int .u64 h.r, .int .i64 h.C, .int .i64 h.S]
 have hx : Ext w (w.alloc (.cells #[.int .i64 h.o, .int .i64 h.s, .int .u64 h.r, .int .i64 h.C, .int .i64 h.S] 34)) := (Ext.refl w).alloc _
 have hd := hx.cell d0
 clear hc d0 hp hk hs ht hidx HR0 hkm
 have q1 : ¬ (h.o < 1) := by omega
 have q2 : decide (h.o < 1) = false := decide_eq_false q1
 have q3 : ¬ ((n : Int) < h.o) := by omega
 have q4 : decide ((n : Int) < h.o) = false := decide_eq_false q3
 have q5 : IntKind.i64.wrap (h.o - 1) = (m : Int) := by rw [IntKind.wrap_i64]; omega
 go_enter Tryz.func79, Tryz.ntmps79
 go_upto_region 1 with fail
 generalize w.alloc (.cells #[.int .i64 h.o, .int .i64 h.s, .int .u64 h.r, .int .i64 h.C, .int .i64 h.S] 34) = V at *
 obtain ⟨b, hb⟩ : ∃ b, w.heap.size = b := ⟨_, rfl⟩
 rw [hb] at hB ⊢
 clear hb
 have c0 := hB.c 0 _ rfl
 have c1 := hB.c 1 _ rfl
 have c2 := hB.c 2 _ rfl
 have c3 := hB.c 3 _ rfl
 have c4 := hB.c 4 _ rfl
 go_upto_region 3 with fail
 have hg := @grow_cell
 have hl0 := hB.lt
 have hl1 := lt_of_cell hd
 simp only at hl1
 have HR2 := Lib.hid (fun d os => HR.out (grow (redrawn V d) os) (hx.trans (ext_grow V d os)))
 refine region_ext (by kernel_rfl) (by kernel_rfl) ?_
 repeat (go_big_quiet_step ((go_at_call 48; exact Calls.regrown_of (HR2.out _ _))))
 refine wpQuiet_nil ?_
 intro w5 hx1
 clear hg hl0 hl1 c0 c1 c2 c3 c4 hd
 go_wp2_with fail
 go_ret
 exact ⟨rfl, hx.trans hx1⟩
open Go.RowKit Go.Sort Go.Shelf
structure HopOk (w : World) (a : Option Addr) (n c : Nat) (ps : List Int) (h : Hd) (ga : Option Addr) (gc : Nat) (h2 : Hd) (i : Nat) (e : En) (pa : Option Addr) (pn pc : Nat) (path : List Int) : Prop where
 keys : Sl .i64 w a n c ps
 many : n ≤ 16
 pub : Keys ps
 one : Sgn ps h
 two : Sgn ps h2
 ne : h2.o ≠ h.o
 grow : Sl .u64 w ga 0 gc []
 lt : (i : Int) < h2.s
 ok : e.Ok
 iv : ivOk e.lo e.hi = true
 pth : Sl .u64 w pa pn pc path
 short : pn ≤ 20
 inn : inR h2 i e path = true
 doc : e.d = digH h
theorem HopOk.ext {w w' : World} {a : Option Addr} {n c : Nat} {ps : List Int} {h : Hd} {ga : Option Addr} {gc : Nat} {h2 : Hd} {i : Nat} {e : En} {pa : Option Addr} {pn pc : Nat} {path : List Int} (H : HopOk w a n c ps h ga gc h2 i e pa pn pc path) (hx : Ext w w') : HopOk w' a n c ps h ga gc h2 i e pa pn pc path :=
 ⟨H.keys.ext hx, H.many, H.pub, H.one, H.two, H.ne, H.grow.ext hx, H.lt, H.ok, H.iv, H.pth.ext hx, H.short, H.inn, H.doc⟩
theorem cloSigned {a : Option Addr} {n c : Nat} {ps : List Int} {h h2 : Hd} {ga : Option Addr} {gc : Nat} {i : Nat} {e : En} {pa : Option Addr} {pn pc : Nat} {path : List Int} {w : World} (H : HopOk w a n c ps h ga gc h2 i e pa pn pc path) (ht : TB w) (b8 : Nat) (b4 : Nat) (b5 : Nat) (hK : Bk w b8 141 #[.slice a n c]) (hF : Bk w b4 34 #[.int .i64 h.o, .int .i64 h.s, .int .u64 h.r, .int .i64 h.C, .int .i64 h.S]) (hQ : Bk w b5 98 #[.int .i64 h.o, .int .i64 h.s, .int .u64 h.r, .int .i64 h.C, .int .i64 h.S, .slice ga 0 gc, .int .i64 h2.o, .int .i64 h2.s, .int .u64 h2.r, .int .i64 h2.C, .int .i64 h2.S, .int .i64 i, .int .u64 e.d, .int .i64 e.lo, .int .i64 e.hi, .slice pa pn pc]) :
  Calls Tryz.prog 78 #[.pointer (some ⟨b8, 0, none⟩), .pointer (some ⟨b4, 0, none⟩), .pointer (some ⟨b5, 0, none⟩)] w fun e9 w' => e9 = .returned (.bool true) ∧ Ext w w' := by
 have H1 := Lib.hid (fun (W : World) (hx : Ext w W) => ksigned_yes a n c ps h W (H.keys.ext hx) H.pub H.one (ht.ext hx))
 have H2 := Lib.hid (fun (W : World) (hx : Ext w W) => ksigned_yes a n c ps h2 W (H.keys.ext hx) H.pub H.two (ht.ext hx))
 unfold hdV at H1 H2
 clear H ht
 have hx := Ext.refl w
 go_enter Tryz.func78, Tryz.ntmps78
 have f0 := hF.c 0 _ rfl
 have f1 := hF.c 1 _ rfl
 have f2 := hF.c 2 _ rfl
 have f3 := hF.c 3 _ rfl
 have f4 := hF.c 4 _ rfl
 have q0 := hQ.c 0 _ rfl
 have q1 := hQ.c 1 _ rfl
 have q2 := hQ.c 2 _ rfl
 have q3 := hQ.c 3 _ rfl
 have q4 := hQ.c 4 _ rfl
 have q5 := hQ.c 5 _ rfl
 have q6 := hQ.c 6 _ rfl
 have q7 := hQ.c 7 _ rfl
 have q8 := hQ.c 8 _ rfl
 have q9 := hQ.c 9 _ rfl
 have q10 := hQ.c 10 _ rfl
 have q11 := hQ.c 11 _ rfl
 have q12 := hQ.c 12 _ rfl
 have q13 := hQ.c 13 _ rfl
 have q14 := hQ.c 14 _ rfl
 have q15 := hQ.c 15 _ rfl
 have k0 := hK.c 0 _ rfl
 go_wp2_with (go_at_call 79; refine (H1.out _ hx).mono ?_; rintro e9 w1 ⟨rfl, hx1⟩; refine hold ?_)
 refine held ?_
 replace hx := hx.trans hx1
 replace hK := hK.ext hx1
 replace hF := hF.ext hx1
 replace hQ := hQ.ext hx1
 clear hx1
 clear f0 f1 f2 f3 f4 q0 q1 q2 q3 q4 q5 q6 q7 q8 q9 q10 q11 q12 q13 q14 q15 k0
 have f0 := hF.c 0 _ rfl
 have f1 := hF.c 1 _ rfl
 have f2 := hF.c 2 _ rfl
 have f3 := hF.c 3 _ rfl
 have f4 := hF.c 4 _ rfl
 have q0 := hQ.c 0 _ rfl
 have q1 := hQ.c 1 _ rfl
 have q2 := hQ.c 2 _ rfl
 have q3 := hQ.c 3 _ rfl
 have q4 := hQ.c 4 _ rfl
 have q5 := hQ.c 5 _ rfl
 have q6 := hQ.c 6 _ rfl
 have q7 := hQ.c 7 _ rfl
 have q8 := hQ.c 8 _ rfl
 have q9 := hQ.c 9 _ rfl
 have q10 := hQ.c 10 _ rfl
 have q11 := hQ.c 11 _ rfl
 have q12 := hQ.c 12 _ rfl
 have q13 := hQ.c 13 _ rfl
 have q14 := hQ.c 14 _ rfl
 have q15 := hQ.c 15 _ rfl
 have k0 := hK.c 0 _ rfl
 go_wp2_with (go_at_call 79; refine (H1.out _ hx).mono ?_; rintro e9 w2 ⟨rfl, hx1⟩; refine hold ?_)
 refine held ?_
 replace hx := hx.trans hx1
 replace hK := hK.ext hx1
 replace hF := hF.ext hx1
 replace hQ := hQ.ext hx1
 clear hx1
 clear f0 f1 f2 f3 f4 q0 q1 q2 q3 q4 q5 q6 q7 q8 q9 q10 q11 q12 q13 q14 q15 k0
 have f0 := hF.c 0 _ rfl
 have f1 := hF.c 1 _ rfl
 have f2 := hF.c 2 _ rfl
 have f3 := hF.c 3 _ rfl
 have f4 := hF.c 4 _ rfl
 have q0 := hQ.c 0 _ rfl
 have q1 := hQ.c 1 _ rfl
 have q2 := hQ.c 2 _ rfl
 have q3 := hQ.c 3 _ rfl
 have q4 := hQ.c 4 _ rfl
 have q5 := hQ.c 5 _ rfl
 have q6 := hQ.c 6 _ rfl
 have q7 := hQ.c 7 _ rfl
 have q8 := hQ.c 8 _ rfl
 have q9 := hQ.c 9 _ rfl
 have q10 := hQ.c 10 _ rfl
 have q11 := hQ.c 11 _ rfl
 have q12 := hQ.c 12 _ rfl
 have q13 := hQ.c 13 _ rfl
 have q14 := hQ.c 14 _ rfl
 have q15 := hQ.c 15 _ rfl
 have k0 := hK.c 0 _ rfl
 go_wp2_with (go_at_call 79; refine (H2.out _ hx).mono ?_; rintro e9 w3 ⟨rfl, hx1⟩; refine hold ?_)
 refine held ?_
 replace hx := hx.trans hx1
 replace hK := hK.ext hx1
 replace hF := hF.ext hx1
 replace hQ := hQ.ext hx1
 clear hx1
 clear f0 f1 f2 f3 f4 q0 q1 q2 q3 q4 q5 q6 q7 q8 q9 q10 q11 q12 q13 q14 q15 k0
 go_wp2_with fail
 go_ret
 exact ⟨rfl, hx⟩
theorem cloOffices {a : Option Addr} {n c : Nat} {ps : List Int} {h h2 : Hd} {ga : Option Addr} {gc : Nat} {i : Nat} {e : En} {pa : Option Addr} {pn pc : Nat} {path : List Int} {w : World} (H : HopOk w a n c ps h ga gc h2 i e pa pn pc path) (ht : TB w) (b5 : Nat) (b4 : Nat) (hQ : Bk w b5 98 #[.int .i64 h.o, .int .i64 h.s, .int .u64 h.r, .int .i64 h.C, .int .i64 h.S, .slice ga 0 gc, .int .i64 h2.o, .int .i64 h2.s, .int .u64 h2.r, .int .i64 h2.C, .int .i64 h2.S, .int .i64 i, .int .u64 e.d, .int .i64 e.lo, .int .i64 e.hi, .slice pa pn pc]) (hF : Bk w b4 34 #[.int .i64 h.o, .int .i64 h.s, .int .u64 h.r, .int .i64 h.C, .int .i64 h.S]) :
  Calls Tryz.prog 80 #[.pointer (some ⟨b5, 0, none⟩), .pointer (some ⟨b4, 0, none⟩)] w fun e9 w' => e9 = .returned (.bool true) ∧ Ext w w' := by
 have g1 : (h2.o == h.o) = false := by simp [H.ne]
 have g2 := H.ne
 clear H ht
 go_enter Tryz.func80, Tryz.ntmps80
 have f0 := hF.c 0 _ rfl
 have f1 := hF.c 1 _ rfl
 have f2 := hF.c 2 _ rfl
 have f3 := hF.c 3 _ rfl
 have f4 := hF.c 4 _ rfl
 have q0 := hQ.c 0 _ rfl
 have q1 := hQ.c 1 _ rfl
 have q2 := hQ.c 2 _ rfl
 have q3 := hQ.c 3 _ rfl
 have q4 := hQ.c 4 _ rfl
 have q5 := hQ.c 5 _ rfl
 have q6 := hQ.c 6 _ rfl
 have q7 := hQ.c 7 _ rfl
 have q8 := hQ.c 8 _ rfl
 have q9 := hQ.c 9 _ rfl
 have q10 := hQ.c 10 _ rfl
 have q11 := hQ.c 11 _ rfl
 have q12 := hQ.c 12 _ rfl
 have q13 := hQ.c 13 _ rfl
 have q14 := hQ.c 14 _ rfl
 have q15 := hQ.c 15 _ rfl
 go_wp2_with fail
 go_ret
 exact ⟨ret_bool (by simp [bne, g1]), Ext.refl w⟩
theorem cloGrows {a : Option Addr} {n c : Nat} {ps : List Int} {h h2 : Hd} {ga : Option Addr} {gc : Nat} {i : Nat} {e : En} {pa : Option Addr} {pn pc : Nat} {path : List Int} {w : World} (H : HopOk w a n c ps h ga gc h2 i e pa pn pc path) (ht : TB w) (b4 : Nat) (b5 : Nat) (hF : Bk w b4 34 #[.int .i64 h.o, .int .i64 h.s, .int .u64 h.r, .int .i64 h.C, .int .i64 h.S]) (hQ : Bk w b5 98 #[.int .i64 h.o, .int .i64 h.s, .int .u64 h.r, .int .i64 h.C, .int .i64 h.S, .slice ga 0 gc, .int .i64 h2.o, .int .i64 h2.s, .int .u64 h2.r, .int .i64 h2.C, .int .i64 h2.S, .int .i64 i, .int .u64 e.d, .int .i64 e.lo, .int .i64 e.hi, .slice pa pn pc]) :
  Calls Tryz.prog 81 #[.pointer (some ⟨b4, 0, none⟩), .pointer (some ⟨b5, 0, none⟩)] w fun e9 w' => e9 = .returned (.bool true) ∧ Ext w w' := by
 have hk := H.one.ok
 obtain ⟨s, hs⟩ : ∃ s : Nat, h.s = s := ⟨h.s.toNat, by have := hk.s; omega⟩
 have hss := hk.s
 have HX := Lib.hid (textended_any h.r h.r hk.r hk.r s s (by omega) (Nat.le_refl _) (by omega) ga 0 gc [] w H.grow (by omega) ht)
 rw [show exV h.r h.r s s [] = true by unfold exV; rw [if_pos rfl]; simp] at HX
 have HS := Lib.hid hs
 rw [← hs] at HX
 clear H ht hk hs hss
 go_enter Tryz.func81, Tryz.ntmps81
 have f0 := hF.c 0 _ rfl
 have f1 := hF.c 1 _ rfl
 have f2 := hF.c 2 _ rfl
 have f3 := hF.c 3 _ rfl
 have f4 := hF.c 4 _ rfl
 have q0 := hQ.c 0 _ rfl
 have q1 := hQ.c 1 _ rfl
 have q2 := hQ.c 2 _ rfl
 have q3 := hQ.c 3 _ rfl
 have q4 := hQ.c 4 _ rfl
 have q5 := hQ.c 5 _ rfl
 have q6 := hQ.c 6 _ rfl
 have q7 := hQ.c 7 _ rfl
 have q8 := hQ.c 8 _ rfl
 have q9 := hQ.c 9 _ rfl
 have q10 := hQ.c 10 _ rfl
 have q11 := hQ.c 11 _ rfl
 have q12 := hQ.c 12 _ rfl
 have q13 := hQ.c 13 _ rfl
 have q14 := hQ.c 14 _ rfl
 have q15 := hQ.c 15 _ rfl
 go_wp2_with (go_at_call 24; refine HX.out.mono ?_; rintro e9 w1 ⟨rfl, hx1⟩)
 go_ret
 exact ⟨rfl, hx1⟩
theorem cloDoc {a : Option Addr} {n c : Nat} {ps : List Int} {h h2 : Hd} {ga : Option Addr} {gc : Nat} {i : Nat} {e : En} {pa : Option Addr} {pn pc : Nat} {path : List Int} {w : World} (H : HopOk w a n c ps h ga gc h2 i e pa pn pc path) (ht : TB w) (b5 : Nat) (hQ : Bk w b5 98 #[.int .i64 h.o, .int .i64 h.s, .int .u64 h.r, .int .i64 h.C, .int .i64 h.S, .slice ga 0 gc, .int .i64 h2.o, .int .i64 h2.s, .int .u64 h2.r, .int .i64 h2.C, .int .i64 h2.S, .int .i64 i, .int .u64 e.d, .int .i64 e.lo, .int .i64 e.hi, .slice pa pn pc]) :
  Calls Tryz.prog 82 #[.pointer (some ⟨b5, 0, none⟩)] w fun e9 w' => e9 = .returned (.bool true) ∧ Ext w w' := by
 have HD := Lib.hid (fun (W : World) (hx : Ext w W) => cdigest_any h H.one.ok W (ht.ext hx))
 have g1 : (e.d == digH h) = true := by simp [H.doc]
 unfold hdV at HD
 clear H ht
 go_enter Tryz.func82, Tryz.ntmps82
 go_upto_region 1 with fail
 have q0 := hQ.c 0 _ rfl
 have q1 := hQ.c 1 _ rfl
 have q2 := hQ.c 2 _ rfl
 have q3 := hQ.c 3 _ rfl
 have q4 := hQ.c 4 _ rfl
 have q5 := hQ.c 5 _ rfl
 have q6 := hQ.c 6 _ rfl
 have q7 := hQ.c 7 _ rfl
 have q8 := hQ.c 8 _ rfl
 have q9 := hQ.c 9 _ rfl
 have q10 := hQ.c 10 _ rfl
 have q11 := hQ.c 11 _ rfl
 have q12 := hQ.c 12 _ rfl
 have q13 := hQ.c 13 _ rfl
 have q14 := hQ.c 14 _ rfl
 have q15 := hQ.c 15 _ rfl
 have hg := @grow_cell
 have hl0 := hQ.lt
 have HD2 := Lib.hid (fun d os => HD.out (grow (redrawn w d) os) (ext_grow w d os))
 refine region_ext (by kernel_rfl) (by kernel_rfl) ?_
 repeat (go_big_quiet_step ((go_at_call 49; exact Calls.regrown_of (HD2.out _ _))))
 refine wpQuiet_nil ?_
 intro w5 hx1
 clear q0 q1 q2 q3 q4 q5 q6 q7 q8 q9 q10 q11 q12 q13 q14 q15
 clear hg hl0
 go_wp2_with fail
 go_ret
 exact ⟨rfl, hx1⟩
theorem cloLogged {a : Option Addr} {n c : Nat} {ps : List Int} {h h2 : Hd} {ga : Option Addr} {gc : Nat} {i : Nat} {e : En} {pa : Option Addr} {pn pc : Nat} {path : List Int} {w : World} (H : HopOk w a n c ps h ga gc h2 i e pa pn pc path) (ht : TB w) (b8 : Nat) (b5 : Nat) (hK : Bk w b8 141 #[.slice a n c]) (hQ : Bk w b5 98 #[.int .i64 h.o, .int .i64 h.s, .int .u64 h.r, .int .i64 h.C, .int .i64 h.S, .slice ga 0 gc, .int .i64 h2.o, .int .i64 h2.s, .int .u64 h2.r, .int .i64 h2.C, .int .i64 h2.S, .int .i64 i, .int .u64 e.d, .int .i64 e.lo, .int .i64 e.hi, .slice pa pn pc]) :
  Calls Tryz.prog 83 #[.pointer (some ⟨b8, 0, none⟩), .pointer (some ⟨b5, 0, none⟩)] w fun e9 w' => e9 = .returned (.bool true) ∧ Ext w w' := by
 have hs := H.two
 have ho := hs.ok.o
 have hln := hs.lt
 have hp := H.keys
 rw [hp.hlen] at hln
 have bd := hp.bd
 obtain ⟨m, hm⟩ : ∃ m : Nat, h2.o - 1 = m := ⟨(h2.o - 1).toNat, by omega⟩
 have hmn : m < n := by omega
 have HR0 := hs.right
 rw [show h2.o.toNat - 1 = m by omega] at HR0
 have hkm : PubK (nth ps m) := H.pub _ (nth_mem (by rw [hp.hlen]; exact hmn))
 have HC := Lib.hid (fun (W : World) (hx : Ext w W) => ocheck_any (nth ps m) hkm.1 hkm.2 h2 hs.ok i H.lt e H.ok H.iv pa pn pc path W (H.pth.ext hx) H.short (ht.ext hx))
 rw [HR0, H.inn] at HC
 unfold rcV at HC
 obtain ⟨x1, o1, rfl, hc⟩ := hp.at (by omega)
 have d0 := hc m hmn
 generalize nth ps m = pk at *
 have q5 : IntKind.i64.wrap (h2.o - 1) = (m : Int) := by rw [IntKind.wrap_i64]; omega
 clear hc hp hs ht HR0 hkm H
 go_enter Tryz.func83, Tryz.ntmps83
 go_upto_region 1 with fail
 have q0 := hQ.c 0 _ rfl
 have q1 := hQ.c 1 _ rfl
 have q2 := hQ.c 2 _ rfl
 have q3 := hQ.c 3 _ rfl
 have q4 := hQ.c 4 _ rfl
 have q5 := hQ.c 5 _ rfl
 have q6 := hQ.c 6 _ rfl
 have q7 := hQ.c 7 _ rfl
 have q8 := hQ.c 8 _ rfl
 have q9 := hQ.c 9 _ rfl
 have q10 := hQ.c 10 _ rfl
 have q11 := hQ.c 11 _ rfl
 have q12 := hQ.c 12 _ rfl
 have q13 := hQ.c 13 _ rfl
 have q14 := hQ.c 14 _ rfl
 have q15 := hQ.c 15 _ rfl
 have k0 := hK.c 0 _ rfl
 have hg := @grow_cell
 have hl0 := hQ.lt
 have hl1 := hK.lt
 have hl2 := lt_of_cell d0
 simp only at hl2
 have HC2 := Lib.hid (fun d os => HC.out (grow (redrawn w d) os) (ext_grow w d os))
 refine region_ext (by kernel_rfl) (by kernel_rfl) ?_
 repeat (go_big_quiet_step ((go_at_call 23; exact Calls.regrown_of (HC2.out _ _))))
 refine wpQuiet_nil ?_
 intro w5 hx1
 clear q0 q1 q2 q3 q4 q5 q6 q7 q8 q9 q10 q11 q12 q13 q14 q15 k0
 clear hg hl0 hl1 hl2 d0
 go_wp2_with fail
 go_ret
 exact ⟨rfl, hx1⟩
theorem callAll_yes {a : Option Addr} {n c : Nat} {ps : List Int} {h h2 : Hd} {ga : Option Addr} {gc : Nat} {i : Nat} {e : En} {pa : Option Addr} {pn pc : Nat} {path : List Int} {w : World} (H : HopOk w a n c ps h ga gc h2 i e pa pn pc path) (ht : TB w) (b8 b4 b5 bl : Nat) (hK : Bk w b8 141 #[.slice a n c]) (hF : Bk w b4 34 #[.int .i64 h.o, .int .i64 h.s, .int .u64 h.r, .int .i64 h.C, .int .i64 h.S]) (hQ : Bk w b5 98 #[.int .i64 h.o, .int .i64 h.s, .int .u64 h.r, .int .i64 h.C, .int .i64 h.S, .slice ga 0 gc, .int .i64 h2.o, .int .i64 h2.s, .int .u64 h2.r, .int .i64 h2.C, .int .i64 h2.S, .int .i64 i, .int .u64 e.d, .int .i64 e.lo, .int .i64 e.hi, .slice pa pn pc]) (hL : Bk w bl 144 #[.func (.func 78) #[] #[.pointer (some ⟨b8, 0, none⟩), .pointer (some ⟨b4, 0, none⟩), .pointer (some ⟨b5, 0, none⟩)], .func (.func 80) #[] #[.pointer (some ⟨b5, 0, none⟩), .pointer (some ⟨b4, 0, none⟩)], .func (.func 81) #[] #[.pointer (some ⟨b4, 0, none⟩), .pointer (some ⟨b5, 0, none⟩)], .func (.func 82) #[] #[.pointer (some ⟨b5, 0, none⟩)], .func (.func 83) #[] #[.pointer (some ⟨b8, 0, none⟩), .pointer (some ⟨b5, 0, none⟩)]]) :
  Calls Tryz.prog 77 #[.slice (some ⟨bl, 0, none⟩) 5 5] w fun e9 w' => e9 = .returned (.bool true) ∧ Ext w w' := by
 have H1 := Lib.hid (fun (W : World) (hx : Ext w W) => cloSigned (H.ext hx) (ht.ext hx) _ _ _ (hK.ext hx) (hF.ext hx) (hQ.ext hx))
 have H2 := Lib.hid (fun (W : World) (hx : Ext w W) => cloOffices (H.ext hx) (ht.ext hx) _ _ (hQ.ext hx) (hF.ext hx))
 have H3 := Lib.hid (fun (W : World) (hx : Ext w W) => cloGrows (H.ext hx) (ht.ext hx) _ _ (hF.ext hx) (hQ.ext hx))
 have H4 := Lib.hid (fun (W : World) (hx : Ext w W) => cloDoc (H.ext hx) (ht.ext hx) _ (hQ.ext hx))
 have H5 := Lib.hid (fun (W : World) (hx : Ext w W) => cloLogged (H.ext hx) (ht.ext hx) _ _ (hK.ext hx) (hQ.ext hx))
 clear H ht hK hF hQ
 go_enter Tryz.func77, Tryz.ntmps77
 go_wp2_with fail
 refine wp_loop_rounds 7 ?_
 have hx := Ext.refl w
 have hW := hL
 rw [rounds_succ]
 have l0 := hW.c 0 _ rfl
 have hx1 : Ext w (w.alloc (.cells #[.func (.func 78) #[] #[.pointer (some ⟨b8, 0, none⟩), .pointer (some ⟨b4, 0, none⟩), .pointer (some ⟨b5, 0, none⟩)]] 144)) := (Ext.refl w).alloc _
 go_wp2_with (go_at_call 78; refine (H1.out _ (hx.trans hx1)).mono ?_; rintro e9 w1 ⟨rfl, hx2⟩; refine hold ?_)
 refine held ?_
 replace hx := (hx.trans hx1).trans hx2
 replace hW := (hW.ext hx1).ext hx2
 clear hx1 hx2 l0
 go_wp2_with fail
 rw [rounds_succ]
 have l1 := hW.c 1 _ rfl
 have hx1 : Ext w1 (w1.alloc (.cells #[.func (.func 80) #[] #[.pointer (some ⟨b5, 0, none⟩), .pointer (some ⟨b4, 0, none⟩)]] 144)) := (Ext.refl w1).alloc _
 go_wp2_with (go_at_call 80; refine (H2.out _ (hx.trans hx1)).mono ?_; rintro e9 w2 ⟨rfl, hx2⟩; refine hold ?_)
 refine held ?_
 replace hx := (hx.trans hx1).trans hx2
 replace hW := (hW.ext hx1).ext hx2
 clear hx1 hx2 l1
 go_wp2_with fail
 rw [rounds_succ]
 have l2 := hW.c 2 _ rfl
 have hx1 : Ext w2 (w2.alloc (.cells #[.func (.func 81) #[] #[.pointer (some ⟨b4, 0, none⟩), .pointer (some ⟨b5, 0, none⟩)]] 144)) := (Ext.refl w2).alloc _
 go_wp2_with (go_at_call 81; refine (H3.out _ (hx.trans hx1)).mono ?_; rintro e9 w3 ⟨rfl, hx2⟩; refine hold ?_)
 refine held ?_
 replace hx := (hx.trans hx1).trans hx2
 replace hW := (hW.ext hx1).ext hx2
 clear hx1 hx2 l2
 go_wp2_with fail
 rw [rounds_succ]
 have l3 := hW.c 3 _ rfl
 have hx1 : Ext w3 (w3.alloc (.cells #[.func (.func 82) #[] #[.pointer (some ⟨b5, 0, none⟩)]] 144)) := (Ext.refl w3).alloc _
 go_wp2_with (go_at_call 82; refine (H4.out _ (hx.trans hx1)).mono ?_; rintro e9 w4 ⟨rfl, hx2⟩; refine hold ?_)
 refine held ?_
 replace hx := (hx.trans hx1).trans hx2
 replace hW := (hW.ext hx1).ext hx2
 clear hx1 hx2 l3
 go_wp2_with fail
 rw [rounds_succ]
 have l4 := hW.c 4 _ rfl
 have hx1 : Ext w4 (w4.alloc (.cells #[.func (.func 83) #[] #[.pointer (some ⟨b8, 0, none⟩), .pointer (some ⟨b5, 0, none⟩)]] 144)) := (Ext.refl w4).alloc _
 go_wp2_with (go_at_call 83; refine (H5.out _ (hx.trans hx1)).mono ?_; rintro e9 w5 ⟨rfl, hx2⟩; refine hold ?_)
 refine held ?_
 replace hx := (hx.trans hx1).trans hx2
 replace hW := (hW.ext hx1).ext hx2
 clear hx1 hx2 l4
 go_wp2_with fail
 rw [rounds_succ]
 go_wp2_with fail
 go_ret
 exact ⟨rfl, hx⟩
open Go.RowKit Go.Sort Go.Shelf
set_option maxHeartbeats 2000000 in
theorem ccheck_yes {a : Option Addr} {n c : Nat} {ps : List Int} {h h2 : Hd} {ga : Option Addr} {gc : Nat} {i : Nat} {e : En} {pa : Option Addr} {pn pc : Nat} {path : List Int} {w : World} (H : HopOk w a n c ps h ga gc h2 i e pa pn pc path) (ht : TB w) :
  Calls Tryz.prog 42 #[.slice a n c, hdV h, hopV h ga gc h2 i e pa pn pc] w fun e9 w' => e9 = .returned (.tuple #[.bool true, .int .i64 0]) ∧ Ext w w' := by
 have HCK := Lib.hid (fun (W : World) (hx : Ext w W) => ocheck_any 4 (by omega) memB4 h2 H.two.ok i H.lt e H.ok H.iv pa pn pc path W (H.pth.ext hx) H.short (ht.ext hx))
 have HKR := Lib.hid (fun (W : World) (hx : Ext w W) => kright_yes a n c ps W (H.keys.ext hx) H.many H.pub (ht.ext hx))
 have HFM := Lib.hid (fun (W : World) (hx : Ext w W) => cformed_yes h H.one.ok W (ht.ext hx))
 have HAL := Lib.hid (fun (W : World) (hx : Ext w W) b8 b4 b5 bl hK hF hQ hL => callAll_yes (H.ext hx) (ht.ext hx) b8 b4 b5 bl hK hF hQ hL)
 generalize (rightH 4 h2 && inR h2 i e path) = VB at *
 unfold hdV hopV
 unfold rcV at HCK
 unfold hdV at HFM
 clear H ht
 have hF := (Bk.new w 34 #[.int .i64 h.o, .int .i64 h.s, .int .u64 h.r, .int .i64 h.C, .int .i64 h.S]).ext ((Ext.refl _).alloc (.cells #[.int .i64 h.o, .int .i64 h.s, .int .u64 h.r, .int .i64 h.C, .int .i64 h.S, .slice ga 0 gc, .int .i64 h2.o, .int .i64 h2.s, .int .u64 h2.r, .int .i64 h2.C, .int .i64 h2.S, .int .i64 i, .int .u64 e.d, .int .i64 e.lo, .int .i64 e.hi, .slice pa pn pc] 98))
 have hQ : Bk ((w.alloc (.cells #[.int .i64 h.o, .int .i64 h.s, .int .u64 h.r, .int .i64 h.C, .int .i64 h.S] 34)).alloc (.cells #[.int .i64 h.o, .int .i64 h.s, .int .u64 h.r, .int .i64 h.C, .int .i64 h.S, .slice ga 0 gc, .int .i64 h2.o, .int .i64 h2.s, .int .u64 h2.r, .int .i64 h2.C, .int .i64 h2.S, .int .i64 i, .int .u64 e.d, .int .i64 e.lo, .int .i64 e.hi, .slice pa pn pc] 98)) (w.heap.size + 1) 98 #[.int .i64 h.o, .int .i64 h.s, .int .u64 h.r, .int .i64 h.C, .int .i64 h.S, .slice ga 0 gc, .int .i64 h2.o, .int .i64 h2.s, .int .u64 h2.r, .int .i64 h2.C, .int .i64 h2.S, .int .i64 i, .int .u64 e.d, .int .i64 e.lo, .int .i64 e.hi, .slice pa pn pc] := by simpa using Bk.new (w.alloc (.cells #[.int .i64 h.o, .int .i64 h.s, .int .u64 h.r, .int .i64 h.C, .int .i64 h.S] 34)) 98 #[.int .i64 h.o, .int .i64 h.s, .int .u64 h.r, .int .i64 h.C, .int .i64 h.S, .slice ga 0 gc, .int .i64 h2.o, .int .i64 h2.s, .int .u64 h2.r, .int .i64 h2.C, .int .i64 h2.S, .int .i64 i, .int .u64 e.d, .int .i64 e.lo, .int .i64 e.hi, .slice pa pn pc]
 have hx : Ext w ((w.alloc (.cells #[.int .i64 h.o, .int .i64 h.s, .int .u64 h.r, .int .i64 h.C, .int .i64 h.S] 34)).alloc (.cells #[.int .i64 h.o, .int .i64 h.s, .int .u64 h.r, .int .i64 h.C, .int .i64 h.S, .slice ga 0 gc, .int .i64 h2.o, .int .i64 h2.s, .int .u64 h2.r, .int .i64 h2.C, .int .i64 h2.S, .int .i64 i, .int .u64 e.d, .int .i64 e.lo, .int .i64 e.hi, .slice pa pn pc] 98)) := ((Ext.refl w).alloc _).alloc _
 go_enter Tryz.func42, Tryz.ntmps42
 go_upto_region 1 with fail
 generalize (w.alloc (.cells #[.int .i64 h.o, .int .i64 h.s, .int .u64 h.r, .int .i64 h.C, .int .i64 h.S] 34)).alloc (.cells #[.int .i64 h.o, .int .i64 h.s, .int .u64 h.r, .int .i64 h.C, .int .i64 h.S, .slice ga 0 gc, .int .i64 h2.o, .int .i64 h2.s, .int .u64 h2.r, .int .i64 h2.C, .int .i64 h2.S, .int .i64 i, .int .u64 e.d, .int .i64 e.lo, .int .i64 e.hi, .slice pa pn pc] 98) = V at *
 obtain ⟨b4, hb4⟩ : ∃ b, w.heap.size = b := ⟨_, rfl⟩
 obtain ⟨b5, hb5⟩ : ∃ b, w.heap.size + 1 = b := ⟨_, rfl⟩
 have hb6 : b4 + 1 = b5 := by omega
 rw [hb4] at hF ⊢
 rw [hb5] at hQ
 rw [hb6]
 clear hb4 hb5 hb6
 have hK := Bk.new V 141 #[.slice a n c]
 have hx1 : Ext V (V.alloc (.cells #[.slice a n c] 141)) := (Ext.refl V).alloc _
 go_upto_region 2 with fail
 replace hx := hx.trans hx1
 replace hF := hF.ext hx1
 replace hQ := hQ.ext hx1
 clear hx1
 generalize V.alloc (.cells #[.slice a n c] 141) = V2 at *
 generalize V.heap.size = b8 at *
 have q0 := hQ.c 0 _ rfl
 have q1 := hQ.c 1 _ rfl
 have q2 := hQ.c 2 _ rfl
 have q3 := hQ.c 3 _ rfl
 have q4 := hQ.c 4 _ rfl
 have q5 := hQ.c 5 _ rfl
 have q6 := hQ.c 6 _ rfl
 have q7 := hQ.c 7 _ rfl
 have q8 := hQ.c 8 _ rfl
 have q9 := hQ.c 9 _ rfl
 have q10 := hQ.c 10 _ rfl
 have q11 := hQ.c 11 _ rfl
 have q12 := hQ.c 12 _ rfl
 have q13 := hQ.c 13 _ rfl
 have q14 := hQ.c 14 _ rfl
 have q15 := hQ.c 15 _ rfl
 go_wp2_with (go_at_call 23; refine (HCK.out _ hx).mono ?_; rintro e9 w1 ⟨rfl, hx1⟩; refine hold ?_)
 refine held ?_
 replace hx := hx.trans hx1
 replace hK := hK.ext hx1
 replace hF := hF.ext hx1
 replace hQ := hQ.ext hx1
 clear hx1
 clear q0 q1 q2 q3 q4 q5 q6 q7 q8 q9 q10 q11 q12 q13 q14 q15
 have k0 := hK.c 0 _ rfl
 go_wp2_with (go_at_call 76; refine (HKR.out _ hx).mono ?_; rintro e9 w2 ⟨rfl, hx1⟩; refine hold ?_)
 refine held ?_
 replace hx := hx.trans hx1
 replace hK := hK.ext hx1
 replace hF := hF.ext hx1
 replace hQ := hQ.ext hx1
 clear hx1
 clear k0
 have f0 := hF.c 0 _ rfl
 have f1 := hF.c 1 _ rfl
 have f2 := hF.c 2 _ rfl
 have f3 := hF.c 3 _ rfl
 have f4 := hF.c 4 _ rfl
 go_wp2_with (go_at_call 70; refine (HFM.out _ hx).mono ?_; rintro e9 w3 ⟨rfl, hx1⟩; refine hold ?_)
 refine held ?_
 replace hx := hx.trans hx1
 replace hK := hK.ext hx1
 replace hF := hF.ext hx1
 replace hQ := hQ.ext hx1
 clear hx1
 clear f0 f1 f2 f3 f4
 have q0 := hQ.c 0 _ rfl
 have q1 := hQ.c 1 _ rfl
 have q2 := hQ.c 2 _ rfl
 have q3 := hQ.c 3 _ rfl
 have q4 := hQ.c 4 _ rfl
 have q5 := hQ.c 5 _ rfl
 have q6 := hQ.c 6 _ rfl
 have q7 := hQ.c 7 _ rfl
 have q8 := hQ.c 8 _ rfl
 have q9 := hQ.c 9 _ rfl
 have q10 := hQ.c 10 _ rfl
 have q11 := hQ.c 11 _ rfl
 have q12 := hQ.c 12 _ rfl
 have q13 := hQ.c 13 _ rfl
 have q14 := hQ.c 14 _ rfl
 have q15 := hQ.c 15 _ rfl
 go_wp2_with (go_at_call 70; refine (HFM.out _ hx).mono ?_; rintro e9 w4 ⟨rfl, hx1⟩; refine hold ?_)
 refine held ?_
 replace hx := hx.trans hx1
 replace hK := hK.ext hx1
 replace hF := hF.ext hx1
 replace hQ := hQ.ext hx1
 clear hx1
 clear q0 q1 q2 q3 q4 q5 q6 q7 q8 q9 q10 q11 q12 q13 q14 q15
 have q0 := hQ.c 0 _ rfl
 have q1 := hQ.c 1 _ rfl
 have q2 := hQ.c 2 _ rfl
 have q3 := hQ.c 3 _ rfl
 have q4 := hQ.c 4 _ rfl
 have q5 := hQ.c 5 _ rfl
 have q6 := hQ.c 6 _ rfl
 have q7 := hQ.c 7 _ rfl
 have q8 := hQ.c 8 _ rfl
 have q9 := hQ.c 9 _ rfl
 have q10 := hQ.c 10 _ rfl
 have q11 := hQ.c 11 _ rfl
 have q12 := hQ.c 12 _ rfl
 have q13 := hQ.c 13 _ rfl
 have q14 := hQ.c 14 _ rfl
 have q15 := hQ.c 15 _ rfl
 have hL := Bk.new w4 144 #[.func (.func 78) #[] #[.pointer (some ⟨b8, 0, none⟩), .pointer (some ⟨b4, 0, none⟩), .pointer (some ⟨b5, 0, none⟩)], .func (.func 80) #[] #[.pointer (some ⟨b5, 0, none⟩), .pointer (some ⟨b4, 0, none⟩)], .func (.func 81) #[] #[.pointer (some ⟨b4, 0, none⟩), .pointer (some ⟨b5, 0, none⟩)], .func (.func 82) #[] #[.pointer (some ⟨b5, 0, none⟩)], .func (.func 83) #[] #[.pointer (some ⟨b8, 0, none⟩), .pointer (some ⟨b5, 0, none⟩)]]
 have hx1 : Ext w4 (w4.alloc (.cells #[.func (.func 78) #[] #[.pointer (some ⟨b8, 0, none⟩), .pointer (some ⟨b4, 0, none⟩), .pointer (some ⟨b5, 0, none⟩)], .func (.func 80) #[] #[.pointer (some ⟨b5, 0, none⟩), .pointer (some ⟨b4, 0, none⟩)], .func (.func 81) #[] #[.pointer (some ⟨b4, 0, none⟩), .pointer (some ⟨b5, 0, none⟩)], .func (.func 82) #[] #[.pointer (some ⟨b5, 0, none⟩)], .func (.func 83) #[] #[.pointer (some ⟨b8, 0, none⟩), .pointer (some ⟨b5, 0, none⟩)]] 144)) := (Ext.refl w4).alloc _
 have HA2 := Lib.hid (HAL.out _ (hx.trans hx1) b8 b4 b5 _ (hK.ext hx1) (hF.ext hx1) (hQ.ext hx1) hL)
 go_wp2_with (go_at_call 77; refine HA2.out.mono ?_; rintro e9 w5 ⟨rfl, hx5⟩)
 go_ret2
 exact ⟨rfl, (hx.trans hx1).trans hx5⟩
open Go.RowKit Go.Sort Go.Shelf
theorem iskey_yes (k : Int) (hk : PubK k) (w : World) (ht : TB w) : Calls Tryz.prog 41 #[.int .i64 k] w fun e w' => e = .returned (.bool true) ∧ Ext w w' := by
 have HR := Lib.hid (fun (W : World) (hx : Ext w W) => oright_any k hk.1 hk.2 hd1 hd1_ok W (ht.ext hx))
 unfold hdV hd1 at HR
 simp only at HR
 clear hk ht
 go_enter Tryz.func41, Tryz.ntmps41
 go_wp2_with (go_at_call 48; refine (HR.out _ (Ext.refl w)).mono ?_; rintro e w1 ⟨rfl, hx1⟩)
 go_ret
 exact ⟨rfl, hx1⟩
theorem kbad_no (k : Int) (hk : PubK k) (w : World) (ht : TB w) : Calls Tryz.prog 40 #[.int .i64 k] w fun e w' => e = .returned (.bool false) ∧ Ext w w' := by
 have HR := Lib.hid (fun (W : World) (hx : Ext w W) => iskey_yes k hk W (ht.ext hx))
 have g1 : (k == 0) = false := by simp [hk.ne0]
 have g2 := hk.ne0
 clear hk ht
 go_enter Tryz.func40, Tryz.ntmps40
 go_wp2_with (go_at_call 41; refine (HR.out _ (Ext.refl w)).mono ?_; rintro e w1 ⟨rfl, hx1⟩)
 go_ret
 exact ⟨rfl, hx1⟩
theorem oidx_none (a : Option Addr) (n c : Nat) (ps : List Int) (w : World) (h : Sl .i64 w a n c ps) (hk : Keys ps) (ht : TB w) :
  Calls Tryz.prog 75 #[.slice a n c, .func (.func 40) #[] #[]] w fun e w' => e = .returned (.int .i64 (-1)) ∧ Ext w w' := by
 have bd := h.bd
 have HS := Lib.hid h
 have HK := Lib.hid (fun (k : Int) (hk1 : k ∈ ps) (W : World) (hx : Ext w W) => kbad_no k (hk k hk1) W (ht.ext hx))
 clear h hk ht
 go_enter Tryz.func75, Tryz.ntmps75
 go_wp2_with fail
 go_loopw [8] (fun i wr => ∃ (k : Nat), k ≤ n ∧ i = .int .i64 k ∧ Hid (Ext w wr)) (fun i _ => n - (intOf i).toNat)
 case atStart => exact ⟨0, by omega, rfl, Lib.hid (Ext.refl w)⟩
 case round =>
  obtain ⟨k, hk, rfl, hx⟩ := hrel
  by_cases hlt : k < n
  ·obtain ⟨x1, o1, rfl, hc1⟩ := HS.out.at (by omega)
   have d0 := hx.out.cell (hc1 k hlt)
   have HC := Lib.hid (HK.out (nth ps k) (nth_mem (by rw [HS.out.hlen]; exact hlt)) wr hx.out)
   clear hc1
   generalize nth ps k = x at *
   go_wp2_with (go_at_call 40; refine HC.out.mono ?_; rintro e w2 ⟨rfl, hx2⟩; refine hold ?_)
   refine held ?_
   clear d0
   go_wp2_with fail
   refine ⟨⟨k + 1, by omega, by go_num, Lib.hid (hx.out.trans hx2)⟩, by simp only [intOf]; omega⟩
  ·obtain rfl : n = k := by omega
   go_wp2_with fail
   go_ret
   exact ⟨rfl, hx.out⟩
theorem ocont_no (a : Option Addr) (n c : Nat) (ps : List Int) (w : World) (h : Sl .i64 w a n c ps) (hk : Keys ps) (ht : TB w) :
  Calls Tryz.prog 39 #[.slice a n c, .func (.func 40) #[] #[]] w fun e w' => e = .returned (.bool false) ∧ Ext w w' := by
 have HI := Lib.hid (oidx_none a n c ps w h hk ht)
 clear h hk ht
 go_enter Tryz.func39, Tryz.ntmps39
 go_wp2_with (go_at_call 75; refine HI.out.mono ?_; rintro e w2 ⟨rfl, hx2⟩)
 go_ret
 exact ⟨rfl, hx2⟩
structure RcOk (w : World) (a : Option Addr) (n c : Nat) (ps : List Int) (h : Hd) (i : Nat) (e : En) (pa : Option Addr) (pn pc : Nat) (path : List Int) : Prop where
 keys : Sl .i64 w a n c ps
 many : n ≤ 16
 pub : Keys ps
 one : Sgn ps h
 lt : (i : Int) < h.s
 ok : e.Ok
 iv : ivOk e.lo e.hi = true
 pth : Sl .u64 w pa pn pc path
 short : pn ≤ 20
 inn : inR h i e path = true
theorem RcOk.ext {w w' : World} {a : Option Addr} {n c : Nat} {ps : List Int} {h : Hd} {i : Nat} {e : En} {pa : Option Addr} {pn pc : Nat} {path : List Int} (H : RcOk w a n c ps h i e pa pn pc path) (hx : Ext w w') : RcOk w' a n c ps h i e pa pn pc path :=
 ⟨H.keys.ext hx, H.many, H.pub, H.one, H.lt, H.ok, H.iv, H.pth.ext hx, H.short, H.inn⟩
theorem oright38_yes {a : Option Addr} {n c : Nat} {ps : List Int} {h : Hd} {i : Nat} {e : En} {pa : Option Addr} {pn pc : Nat} {path : List Int} {w : World} (H : RcOk w a n c ps h i e pa pn pc path) (ht : TB w) :
  Calls Tryz.prog 38 #[.slice a n c, rcV h i e pa pn pc] w fun e9 w' => e9 = .returned (.tuple #[.bool true, .int .i64 0]) ∧ Ext w w' := by
 have hs := H.one
 have ho := hs.ok.o
 have hln := hs.lt
 have hp := H.keys
 rw [hp.hlen] at hln
 have bd := hp.bd
 obtain ⟨m, hm⟩ : ∃ m : Nat, h.o - 1 = m := ⟨(h.o - 1).toNat, by omega⟩
 have hmn : m < n := by omega
 have HR0 := hs.right
 rw [show h.o.toNat - 1 = m by omega] at HR0
 have hkm : PubK (nth ps m) := H.pub _ (nth_mem (by rw [hp.hlen]; exact hmn))
 have HC := Lib.hid (fun (W : World) (hx : Ext w W) => ocheck_any (nth ps m) hkm.1 hkm.2 h hs.ok i H.lt e H.ok H.iv pa pn pc path W (H.pth.ext hx) H.short (ht.ext hx))
 rw [HR0, H.inn] at HC
 unfold rcV at HC ⊢
 obtain ⟨x1, o1, rfl, hc⟩ := hp.at (by omega)
 have d0 := hc m hmn
 have g1 : (nth ps m == 0) = false := by simp [hkm.ne0]
 have g2 := hkm.ne0
 generalize nth ps m = pk at *
 have hB := Bk.new w 44 #[.int .i64 h.o, .int .i64 h.s, .int .u64 h.r, .int .i64 h.C, .int .i64 h.S, .int .i64 i, .int .u64 e.d, .int .i64 e.lo, .int .i64 e.hi, .slice pa pn pc]
 have hx : Ext w (w.alloc (.cells #[.int .i64 h.o, .int .i64 h.s, .int .u64 h.r, .int .i64 h.C, .int .i64 h.S, .int .i64 i, .int .u64 e.d, .int .i64 e.lo, .int .i64 e.hi, .slice pa pn pc] 44)) := (Ext.refl w).alloc _
 have q5 : IntKind.i64.wrap (h.o - 1) = (m : Int) := by rw [IntKind.wrap_i64]; omega
 have q1 : (1 : Int) ≤ h.o := ho.1
 have q2 : decide ((1 : Int) ≤ h.o) = true := decide_eq_true q1
 have q3 : h.o ≤ (n : Int) := hln
 have q4 : decide (h.o ≤ (n : Int)) = true := decide_eq_true q3
 have hd := hx.cell d0
 clear hc hp hs ht HR0 hkm H d0
 go_enter Tryz.func38, Tryz.ntmps38
 go_upto_region 1 with fail
 generalize w.alloc (.cells #[.int .i64 h.o, .int .i64 h.s, .int .u64 h.r, .int .i64 h.C, .int .i64 h.S, .int .i64 i, .int .u64 e.d, .int .i64 e.lo, .int .i64 e.hi, .slice pa pn pc] 44) = V at *
 obtain ⟨b, hb⟩ : ∃ b, w.heap.size = b := ⟨_, rfl⟩
 rw [hb] at hB ⊢
 clear hb
 have c0 := hB.c 0 _ rfl
 have c1 := hB.c 1 _ rfl
 have c2 := hB.c 2 _ rfl
 have c3 := hB.c 3 _ rfl
 have c4 := hB.c 4 _ rfl
 have c5 := hB.c 5 _ rfl
 have c6 := hB.c 6 _ rfl
 have c7 := hB.c 7 _ rfl
 have c8 := hB.c 8 _ rfl
 have c9 := hB.c 9 _ rfl
 go_wp2_with (go_at_call 23; refine (HC.out _ hx).mono ?_; rintro e9 w1 ⟨rfl, hx1⟩)
 go_ret2
 exact ⟨rfl, hx.trans hx1⟩
end Go.Proofs.YtacicanjmleikaaGreatDoor
