/-
  The packets of requests and replies, by both implementations.
-/
import Derived.Test.YtcpojkodidflcaaK2
namespace Go.Proofs.Ytcpojkodidflcaa
open Go.RowKit Go.Sort Go.Shelf
set_option linter.unusedSimpArgs false
set_option linter.unusedVariables false
set_option maxRecDepth 100000

theorem newSl (k : IntKind) (E : TypeId) (w : World) (xs : List Int) (cs : Array Value) (hcs : cs.toList = xs.map (Value.int k)) (hm : xs.length ≤ maxLen) (hw : ∀ x ∈ xs, (Lit.int k x).wf = true) :
    Sl k (w.alloc (.cells cs E)) (some ⟨w.heap.size, 0, none⟩) xs.length xs.length xs :=
  (OwI.lit k E w xs (Nat.le_refl _) hm cs hcs).sl hw
theorem newSlAt (k : IntKind) (E : TypeId) (w : World) (b n : Nat) (xs : List Int) (cs : Array Value) (hb : w.heap.size = b) (hn : xs.length = n) (hcs : cs.toList = xs.map (Value.int k)) (hm : xs.length ≤ maxLen) (hw : ∀ x ∈ xs, (Lit.int k x).wf = true) :
    Sl k (w.alloc (.cells cs E)) (some ⟨b, 0, none⟩) n n xs := by
  subst hb hn
  exact newSl k E w xs cs hcs hm hw
theorem Sl.noneNil (k : IntKind) (w : World) : Sl k w none 0 0 [] := (OwI.nil k 0 0 w).sl (by simp)

/-- What putting a packet answers. -/
def PktPost (w w' : World) (e : Ending) (ok : Bool) (bs : List Int) : Prop :=
  ∃ (a : Option Addr) (m c : Nat) (zs : List Int) (r : Int), e = .returned (.tuple #[.slice a m c, .int .i64 r]) ∧ Sl .u8 w' a m c zs ∧ Ext w w' ∧ zs = (if ok = true then bs else []) ∧ r = (if ok = true then 0 else 1)
theorem pktPost_no {w w' : World} {e : Ending} {bs : List Int} (h : e = .returned (.tuple #[.slice none 0 0, .int .i64 1])) (hE : Ext w w') : PktPost w w' e false bs := ⟨none, 0, 0, [], 1, h, Sl.noneNil _ _, hE, rfl, rfl⟩
theorem pktPost_yes {w w1 w' : World} {e : Ending} {bs : List Int} {v : Value} (h : e = .returned (.tuple #[v, .int .i64 0])) (hN : NewB w1 w' v bs) (hw : ∀ x ∈ bs, (Lit.int .u8 x).wf = true) (hE : Ext w w1) : PktPost w w' e true bs := by
  obtain ⟨g, c, rfl, ho, hE2⟩ := hN
  exact ⟨_, _, _, bs, 0, h, ho.sl hw, hE.trans hE2, rfl, rfl⟩

/-- The integers of a request. -/
def reqInts (h a r n : Int) : List Int := [h, a, r, n / 4294967296, n % 4294967296]
structure ReqW (h a r n : Int) : Prop where
  h : (Lit.int .i64 h).wf = true
  a : (Lit.int .i64 a).wf = true
  r : (Lit.int .i64 r).wf = true
  n : (Lit.int .u64 n).wf = true
theorem wf_of_i64 {x : Int} (h1 : -9223372036854775808 ≤ x) (h2 : x ≤ 9223372036854775807) : (Lit.int .i64 x).wf = true := by
  simp [Lit.wf, IntKind.min, IntKind.max, IntKind.bits, IntKind.signed]; omega
theorem ReqW.ints {h a r n : Int} (hw : ReqW h a r n) : ∀ x ∈ [h, a, r, n / 4294967296, n % 4294967296], (Lit.int .i64 x).wf = true := by
  have hn := wf_u64 hw.n
  intro x hx
  simp only [List.mem_cons, List.not_mem_nil, or_false] at hx
  rcases hx with rfl | rfl | rfl | rfl | rfl
  · exact hw.h
  · exact hw.a
  · exact hw.r
  · exact wf_of_i64 (by omega) (by omega)
  · exact wf_of_i64 (by omega) (by omega)

set_option maxHeartbeats 1000000 in
theorem putRequest_any (h a r n : Int) (hw : ReqW h a r n) (w : World) : Calls Try.prog 11 #[.agg #[.int .i64 h, .int .i64 a, .int .i64 r, .int .u64 n]] w fun e w' => PktPost w w' e (reqB h a r) (pkt 1 (reqInts h a r n)) := by
  have hn := wf_u64 hw.n
  have hi := Lib.hid hw.ints
  rcases hb : reqB h a r with _ | _
  all_goals
    have HB := Lib.hid hb
    clear hb
    go_enter Try.func11, Try.ntmps11
    go_wp2_with (first | (go_at_call 22; refine (request_any _ _ _ _ _).mono ?_; rintro e w1 ⟨rfl, hE1⟩; rw [HB.out]; obtain ⟨hc1, hf1⟩ := hE1.rules; have hz1 := hE1.sz1) | (go_at_call 23; refine (halves_any _ _ hn).mono ?_; rintro e w2 ⟨rfl, hE2⟩; obtain ⟨hc2, hf2⟩ := hE2.rules; have hz2 := Nat.lt_of_lt_of_le hz1 hE2.sz) | (go_at_call 24; refine (put_pkt 1 (by omega) _ _ _ [h, a, r, n / 4294967296, n % 4294967296] _ (newSlAt .i64 3 _ _ _ _ _ (by simp) rfl rfl (by simp [maxLen]) hi.out) (by simp)).mono ?_; rintro e w3 ⟨v, rfl, hN⟩))
  · go_ret2
    exact pktPost_no rfl (((Ext.refl w).alloc _).trans hE1)
  · go_ret2
    exact pktPost_yes rfl hN (pkt_wf (by omega) _) (((((((Ext.refl w).alloc _).trans hE1).trans hE2).alloc _)).alloc _)

end Go.Proofs.Ytcpojkodidflcaa
