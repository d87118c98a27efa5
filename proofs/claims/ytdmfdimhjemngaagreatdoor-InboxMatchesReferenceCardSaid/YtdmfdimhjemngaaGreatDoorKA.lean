
import Derived.Test.YtdmfdimhjemngaaGreatDoorWA
import Derived.Test.YtdmfdimhjemngaaGreatDoorLibA
import Derived.Deep.RegionWith
import Derived.Deep.Cut
/-
  The packets: what is within, valid requests, halves of nonces, packets of integers.
-/
namespace Go.Proofs.YtdmfdimhjemngaaGreatDoor
open Go.RowKit Go.Sort Go.Shelf
set_option linter.unusedSimpArgs false
set_option linter.unusedVariables false
set_option maxRecDepth 100000

/-- n is from lo to hi. -/
def inB (n lo hi : Int) : Bool := decide (lo ≤ n ∧ n ≤ hi)
theorem inB_iff {n lo hi : Int} : inB n lo hi = true ↔ lo ≤ n ∧ n ≤ hi := by unfold inB; exact decide_eq_true_iff

theorem kwithin_any (n lo hi : Int) (w : World) : Calls Tryz.prog 84 #[.int .i64 n, .int .i64 lo, .int .i64 hi] w fun e w' => e = .returned (.bool (inB n lo hi)) ∧ w = w' := by
  by_cases h1 : lo ≤ n
  · by_cases h2 : n ≤ hi
    · have e : inB n lo hi = true := inB_iff.2 ⟨h1, h2⟩
      rw [e]; clear e
      go_enter Tryz.func84, Tryz.ntmps84
      go_wp2
      go_ret
      exact ⟨rfl, rfl⟩
    · have e : inB n lo hi = false := by unfold inB; simp; omega
      rw [e]; clear e
      go_enter Tryz.func84, Tryz.ntmps84
      go_wp2
      go_ret
      exact ⟨ret_bool (by simp), rfl⟩
  · have e : inB n lo hi = false := by unfold inB; simp; omega
    rw [e]; clear e
    go_enter Tryz.func84, Tryz.ntmps84
    go_wp2
    go_ret
    exact ⟨ret_bool (by simp), rfl⟩

theorem in_any (n lo hi : Int) (w : World) : Calls Tryz.prog 75 #[.int .i64 n, .int .i64 lo, .int .i64 hi] w fun e w' => e = .returned (.bool (inB n lo hi)) ∧ w = w' := by
  by_cases h1 : lo ≤ n
  · by_cases h2 : n ≤ hi
    · have e : inB n lo hi = true := inB_iff.2 ⟨h1, h2⟩
      rw [e]; clear e
      go_enter Tryz.func75, Tryz.ntmps75
      go_wp2
      go_ret
      exact ⟨rfl, rfl⟩
    · have e : inB n lo hi = false := by unfold inB; simp; omega
      rw [e]; clear e
      go_enter Tryz.func75, Tryz.ntmps75
      go_wp2
      go_ret
      exact ⟨ret_bool (by simp), rfl⟩
  · have e : inB n lo hi = false := by unfold inB; simp; omega
    rw [e]; clear e
    go_enter Tryz.func75, Tryz.ntmps75
    go_wp2
    go_ret
    exact ⟨ret_bool (by simp), rfl⟩

/-- A valid request. -/
def reqB (h a r : Int) : Bool := inB h 1 64 && (inB a 1 16 && inB r 1 200)

theorem request_any (h a r n : Int) (w : World) : Calls Tryz.prog 82 #[.agg #[.int .i64 h, .int .i64 a, .int .i64 r, .int .u64 n]] w fun e w' => e = .returned (.bool (reqB h a r)) ∧ Ext w w' := by
  unfold reqB
  rcases h1 : inB h 1 64 with _ | _
  · have H1 := Lib.hid h1
    clear h1
    go_enter Tryz.func82, Tryz.ntmps82
    go_wp2_with fail
    refine (kwithin_any _ _ _ _).mono ?_
    rintro e w' ⟨rfl, rfl⟩
    rw [H1.out]
    go_wp2
    go_ret
    exact ⟨rfl, (Ext.refl w).alloc _⟩
  · rcases h2 : inB a 1 16 with _ | _
    · have H1 := Lib.hid h1
      have H2 := Lib.hid h2
      clear h1 h2
      go_enter Tryz.func82, Tryz.ntmps82
      go_wp2_with fail
      refine (kwithin_any _ _ _ _).mono ?_
      rintro e w' ⟨rfl, rfl⟩
      rw [H1.out]
      go_wp2_with fail
      refine (kwithin_any _ _ _ _).mono ?_
      rintro e w' ⟨rfl, rfl⟩
      rw [H2.out]
      go_wp2
      go_ret
      exact ⟨rfl, (Ext.refl w).alloc _⟩
    · have H1 := Lib.hid h1
      have H2 := Lib.hid h2
      clear h1 h2
      go_enter Tryz.func82, Tryz.ntmps82
      go_wp2_with fail
      refine (kwithin_any _ _ _ _).mono ?_
      rintro e w' ⟨rfl, rfl⟩
      rw [H1.out]
      go_wp2_with fail
      refine (kwithin_any _ _ _ _).mono ?_
      rintro e w' ⟨rfl, rfl⟩
      rw [H2.out]
      go_wp2_with fail
      refine (kwithin_any _ _ _ _).mono ?_
      rintro e w' ⟨rfl, rfl⟩
      go_wp2
      go_ret
      exact ⟨rfl, (Ext.refl w).alloc _⟩

theorem and32 {n : Int} (h : 0 ≤ n ∧ n ≤ 18446744073709551615) : bits .and .u64 n 4294967295 = n % 4294967296 := by
  obtain ⟨m, rfl⟩ : ∃ m : Nat, n = (m : Int) := ⟨n.toNat, by omega⟩
  show IntKind.u64.wrap ((BitVec.ofInt 64 (m : Int) &&& BitVec.ofInt 64 4294967295).toNat : Int) = _
  rw [BitVec.toNat_and, BitVec.ofInt_natCast, show BitVec.ofInt 64 4294967295 = BitVec.ofNat 64 4294967295 from rfl, BitVec.toNat_ofNat, BitVec.toNat_ofNat, Nat.mod_eq_of_lt (by omega), Nat.mod_eq_of_lt (by omega)]
  have : m &&& 4294967295 = m % 4294967296 := Nat.and_two_pow_sub_one_eq_mod m 32
  rw [this, IntKind.wrap_u64]
  omega

theorem khalves_any (n : Int) (w : World) (hn : 0 ≤ n ∧ n ≤ 18446744073709551615) : Calls Tryz.prog 61 #[.int .u64 n] w fun e w' => e = .returned (.agg #[.int .i64 (n / 4294967296), .int .i64 (n % 4294967296)]) ∧ Ext w w' := by
  have ha := and32 hn
  go_enter Tryz.func61, Tryz.ntmps61
  go_wp2
  go_returns
  exact ⟨by simp, (Ext.refl w).alloc _⟩

/-- The bytes of a packet. -/
def pkt (k : Int) (l : List Int) : List Int := k :: lput l
theorem pkt_wf {k : Int} (hk : 0 ≤ k ∧ k ≤ 255) (l : List Int) : ∀ x ∈ pkt k l, (Lit.int .u8 x).wf = true := by
  intro x hx
  rcases List.mem_cons.1 hx with rfl | hx
  · simp [Lit.wf, IntKind.min, IntKind.max, IntKind.bits, IntKind.signed]; omega
  · exact lput_wf l x hx

/-- A slice of bytes that the call has made. -/
def NewB (w w' : World) (v : Value) (bs : List Int) : Prop := ∃ g c, v = .slice (some ⟨g, 0, none⟩) bs.length c ∧ OwI .u8 5 w.heap.size w' (some ⟨g, 0, none⟩) bs.length c bs ∧ Ext w w'

theorem put_pkt (k : Int) (hk : 0 ≤ k ∧ k ≤ 255) (a1 : Option Addr) (n1 c1 : Nat) (xs : List Int) (w : World) (h1 : Sl .i64 w a1 n1 c1 xs) (hs : n1 ≤ 1000) :
    Calls Tryz.prog 62 #[.int .u8 k, .slice a1 n1 c1] w fun e w' => ∃ v, e = .returned (.tuple #[v, .int .i64 0]) ∧ NewB w w' v (pkt k xs) := by
  have hll := (lput_len h1.wf (by rw [h1.hlen]; omega)).1
  have hl2 := (lput_len h1.wf (by rw [h1.hlen]; omega)).2
  have hxl := h1.hlen
  go_enter Tryz.func62, Tryz.ntmps62
  go_wp2_with fail
  refine (put2_any _ _ _ xs _ h1 hs).mono ?_
  rintro e w1 ⟨g1, c1, rfl, ho1, hE1⟩
  have hs1 := ho1.sl (lput_wf xs)
  have hL : (lput xs).length ≤ 10010 := by omega
  clear ho1 hl2 hxl
  have hP : pkt k xs = [k] ++ lput xs := rfl
  have HP := Lib.hid hP
  clear hP
  generalize lput xs = PX at *
  have hn0 : OwI .u8 5 w1.heap.size (w1.alloc (.cells #[.int .u8 k] 5)) (some ⟨w1.heap.size, 0, none⟩) 1 1 [k] := OwI.lit .u8 5 w1 [k] (Nat.le_refl _) (by simp [maxLen]) #[.int .u8 k] rfl
  have hs1e := hs1.ext ((Ext.refl w1).alloc (.cells #[.int .u8 k] 5))
  go_wp2_with (at_builtin; refine appS el_u8 rfl _ _ rfl _ w1.heap.size _ 1 1 [k] rfl hn0 _ _ _ PX rfl hs1e (by omega) (by simp) (by unfold maxLen; omega) (by omega) ?_; refine hold ?_)
  refine held ?_
  intro g6 c6 w6 ho6 hB6
  have hE6 : Ext w1 w6 := Below.trans ((Ext.refl w1).alloc _) hB6
  clear hn0 hs1e hB6
  go_wp2
  go_ret2
  refine ⟨_, rfl, g6, c6, ?_, ?_, hE1.trans hE6⟩
  · rw [HP.out]; simp; omega
  · rw [HP.out]; rw [show ([k] ++ PX).length = 1 + PX.length by simp; omega]; exact ho6.mono hE1.sz

end Go.Proofs.YtdmfdimhjemngaaGreatDoor

/-
  Valid requests and replies; the packets of valid ones.
-/
namespace Go.Proofs.YtdmfdimhjemngaaGreatDoor
open Go.RowKit Go.Sort Go.Shelf
set_option linter.unusedSimpArgs false
set_option linter.unusedVariables false
set_option maxRecDepth 100000

theorem rrequest_any (h a r n : Int) (w : World) : Calls Tryz.prog 73 #[.agg #[.int .i64 h, .int .i64 a, .int .i64 r, .int .u64 n]] w fun e w' => e = .returned (.bool (reqB h a r)) ∧ Ext w w' := by
  unfold reqB
  go_enter Tryz.func73, Tryz.ntmps73
  go_wp2_with (refine (in_any _ _ _ _).mono ?_; rintro e w' ⟨rfl, rfl⟩)
  all_goals
    go_ret
    exact ⟨ret_bool (by simp [*]), (Ext.refl w).alloc _⟩

/-- A well-formed interval. -/
def validB (lo hi : Int) : Bool := decide (0 ≤ lo ∧ lo ≤ hi ∧ hi ≤ 3000000000000000)
theorem validB_iff {lo hi : Int} : validB lo hi = true ↔ 0 ≤ lo ∧ lo ≤ hi ∧ hi ≤ 3000000000000000 := by unfold validB; exact decide_eq_true_iff

theorem kvalid_any (lo hi : Int) (w : World) : Calls Tryz.prog 83 #[.agg #[.int .i64 lo, .int .i64 hi]] w fun e w' => e = .returned (.bool (validB lo hi)) ∧ Ext w w' := by
  unfold validB
  go_enter Tryz.func83, Tryz.ntmps83
  go_wp2
  all_goals
    go_ret
    refine ⟨ret_bool ?_, (Ext.refl w).alloc _⟩
    simp_all <;> omega

theorem krvalid_any (lo hi : Int) (w : World) : Calls Tryz.prog 74 #[.agg #[.int .i64 lo, .int .i64 hi]] w fun e w' => e = .returned (.bool (validB lo hi)) ∧ Ext w w' := by
  unfold validB
  go_enter Tryz.func74, Tryz.ntmps74
  go_wp2
  all_goals
    go_ret
    refine ⟨ret_bool ?_, (Ext.refl w).alloc _⟩
    simp_all <;> omega

/-- A valid reply. -/
def repB (a h r lo hi k t c s : Int) : Bool := reqB h a r && (validB lo hi && (inB k 0 1000 && (inB t 0 1000 && (inB c 0 1073741788 && inB s 0 1073741788))))

theorem reply_any (a h r n lo hi k t c s : Int) (w : World) : Calls Tryz.prog 60 #[.agg #[.int .i64 a, .int .i64 h, .int .i64 r, .int .u64 n, .int .i64 lo, .int .i64 hi, .int .i64 k, .int .i64 t, .int .i64 c, .int .i64 s]] w fun e w' => e = .returned (.bool (repB a h r lo hi k t c s)) ∧ Ext w w' := by
  unfold repB
  go_enter Tryz.func60, Tryz.ntmps60
  go_wp2_with (first | (go_at_call 82; refine (request_any _ _ _ _ _).mono ?_; rintro e w1 ⟨rfl, hE1⟩; obtain ⟨hc1, hf1⟩ := hE1.rules; have hz1 := hE1.sz1) | (go_at_call 83; refine (kvalid_any _ _ _).mono ?_; rintro e w2 ⟨rfl, hE2⟩; obtain ⟨hc2, hf2⟩ := hE2.rules; have hz2 := hE2.sz) | (go_at_call 84; refine (kwithin_any _ _ _ _).mono ?_; rintro e w' ⟨rfl, rfl⟩))
  all_goals
    go_ret
    refine ⟨ret_bool (by simp [*]), ?_⟩
    first
      | exact ((Ext.refl w).alloc _).trans (hE1.trans hE2)
      | exact ((Ext.refl w).alloc _).trans hE1

theorem rreply_any (a h r n lo hi k t c s : Int) (w : World) : Calls Tryz.prog 51 #[.agg #[.int .i64 a, .int .i64 h, .int .i64 r, .int .u64 n, .int .i64 lo, .int .i64 hi, .int .i64 k, .int .i64 t, .int .i64 c, .int .i64 s]] w fun e w' => e = .returned (.bool (repB a h r lo hi k t c s)) ∧ Ext w w' := by
  unfold repB
  go_enter Tryz.func51, Tryz.ntmps51
  go_wp2_with (first | (go_at_call 73; refine (rrequest_any _ _ _ _ _).mono ?_; rintro e w1 ⟨rfl, hE1⟩; obtain ⟨hc1, hf1⟩ := hE1.rules; have hz1 := hE1.sz1) | (go_at_call 74; refine (krvalid_any _ _ _).mono ?_; rintro e w2 ⟨rfl, hE2⟩; obtain ⟨hc2, hf2⟩ := hE2.rules; have hz2 := hE2.sz) | (go_at_call 75; refine (in_any _ _ _ _).mono ?_; rintro e w' ⟨rfl, rfl⟩))
  all_goals
    go_ret
    refine ⟨ret_bool (by simp [*]), ?_⟩
    first
      | exact ((Ext.refl w).alloc _).trans (hE1.trans hE2)
      | exact ((Ext.refl w).alloc _).trans hE1

end Go.Proofs.YtdmfdimhjemngaaGreatDoor

/-
  The packets of requests and replies, by both implementations.
-/
namespace Go.Proofs.YtdmfdimhjemngaaGreatDoor
open Go.RowKit Go.Sort Go.Shelf
set_option linter.unusedSimpArgs false
set_option linter.unusedVariables false
set_option maxRecDepth 100000

theorem newSl (k : IntKind) (E : TypeId) (w : World) (xs : List Int) (cs : Array Value) (hcs : cs.toList = xs.map (Value.int k)) (hm : xs.length ≤ maxLen) (hw : ∀ x ∈ xs, (Lit.int k x).wf = true) :
    Sl k (w.alloc (.cells cs E)) (some ⟨w.heap.size, 0, none⟩) xs.length xs.length xs :=
  (OwI.lit k E w xs (Nat.le_refl _) hm cs hcs).sl hw
theorem newSlAt (k : IntKind) (E : TypeId) (w : World) (b n : Nat) (xs : List Int) (cs : Array Value) (hb : w.heap.size = b) (hn : xs.length = n) (hcs : cs.toList = xs.map (Value.int k)) (hm : xs.length ≤ maxLen) (hw : ∀ x ∈ xs, (Lit.int k x).wf = true) :
    Sl k (w.alloc (.cells cs E)) (some ⟨b, 0, none⟩) n n xs := by
  subst hb hn
  exact newSl k E w xs cs hcs hm hw
theorem Sl.noneNil (k : IntKind) (w : World) : Sl k w none 0 0 [] := (OwI.nil k 0 0 w).sl (by simp)

/-- What putting a packet answers. -/
def PktPost (w w' : World) (e : Ending) (ok : Bool) (bs : List Int) : Prop :=
  ∃ (a : Option Addr) (m c : Nat) (zs : List Int) (r : Int), e = .returned (.tuple #[.slice a m c, .int .i64 r]) ∧ Sl .u8 w' a m c zs ∧ Ext w w' ∧ zs = (if ok = true then bs else []) ∧ r = (if ok = true then 0 else 1)
theorem pktPost_no {w w' : World} {e : Ending} {bs : List Int} (h : e = .returned (.tuple #[.slice none 0 0, .int .i64 1])) (hE : Ext w w') : PktPost w w' e false bs := ⟨none, 0, 0, [], 1, h, Sl.noneNil _ _, hE, rfl, rfl⟩
theorem pktPost_yes {w w1 w' : World} {e : Ending} {bs : List Int} {v : Value} (h : e = .returned (.tuple #[v, .int .i64 0])) (hN : NewB w1 w' v bs) (hw : ∀ x ∈ bs, (Lit.int .u8 x).wf = true) (hE : Ext w w1) : PktPost w w' e true bs := by
  obtain ⟨g, c, rfl, ho, hE2⟩ := hN
  exact ⟨_, _, _, bs, 0, h, ho.sl hw, hE.trans hE2, rfl, rfl⟩

/-- The integers of a request. -/
def reqInts (h a r n : Int) : List Int := [h, a, r, n / 4294967296, n % 4294967296]
structure ReqW (h a r n : Int) : Prop where
  h : (Lit.int .i64 h).wf = true
  a : (Lit.int .i64 a).wf = true
  r : (Lit.int .i64 r).wf = true
  n : (Lit.int .u64 n).wf = true
theorem wf_of_i64 {x : Int} (h1 : -9223372036854775808 ≤ x) (h2 : x ≤ 9223372036854775807) : (Lit.int .i64 x).wf = true := by
  simp [Lit.wf, IntKind.min, IntKind.max, IntKind.bits, IntKind.signed]; omega
theorem ReqW.ints {h a r n : Int} (hw : ReqW h a r n) : ∀ x ∈ [h, a, r, n / 4294967296, n % 4294967296], (Lit.int .i64 x).wf = true := by
  have hn := wf_u64 hw.n
  intro x hx
  simp only [List.mem_cons, List.not_mem_nil, or_false] at hx
  rcases hx with rfl | rfl | rfl | rfl | rfl
  · exact hw.h
  · exact hw.a
  · exact hw.r
  · exact wf_of_i64 (by omega) (by omega)
  · exact wf_of_i64 (by omega) (by omega)

end Go.Proofs.YtdmfdimhjemngaaGreatDoor

/-
  The packets of requests and replies, by the reference; the packets of replies.
-/
namespace Go.Proofs.YtdmfdimhjemngaaGreatDoor
open Go.RowKit Go.Sort Go.Shelf
set_option linter.unusedSimpArgs false
set_option linter.unusedVariables false
set_option maxRecDepth 100000

/-- A slice of integers that the call has made. -/
def NewI (w w' : World) (v : Value) (xs : List Int) : Prop := ∃ a c, v = .slice a xs.length c ∧ Sl .i64 w' a xs.length c xs ∧ Ext w w'

/-- The integers of a reply. -/
def repInts (a h r n lo hi k t c s : Int) : List Int := [a, h, r, n / 4294967296, n % 4294967296, lo, hi, k, t, c, s]
structure RepW (a h r n lo hi k t c s : Int) : Prop where
  q : ReqW h a r n
  lo : (Lit.int .i64 lo).wf = true
  hi : (Lit.int .i64 hi).wf = true
  k : (Lit.int .i64 k).wf = true
  t : (Lit.int .i64 t).wf = true
  c : (Lit.int .i64 c).wf = true
  s : (Lit.int .i64 s).wf = true
theorem RepW.ints {a h r n lo hi k t c s : Int} (hw : RepW a h r n lo hi k t c s) : ∀ x ∈ [a, h, r, n / 4294967296, n % 4294967296, lo, hi, k, t, c, s], (Lit.int .i64 x).wf = true := by
  have hn := wf_u64 hw.q.n
  intro x hx
  simp only [List.mem_cons, List.not_mem_nil, or_false] at hx
  rcases hx with rfl | rfl | rfl | rfl | rfl | rfl | rfl | rfl | rfl | rfl | rfl
  · exact hw.q.a
  · exact hw.q.h
  · exact hw.q.r
  · exact wf_of_i64 (by omega) (by omega)
  · exact wf_of_i64 (by omega) (by omega)
  · exact hw.lo
  · exact hw.hi
  · exact hw.k
  · exact hw.t
  · exact hw.c
  · exact hw.s

set_option maxHeartbeats 1000000 in
theorem putReply_any (a h r n lo hi k t c s : Int) (hw : RepW a h r n lo hi k t c s) (w : World) : Calls Tryz.prog 41 #[.agg #[.int .i64 a, .int .i64 h, .int .i64 r, .int .u64 n, .int .i64 lo, .int .i64 hi, .int .i64 k, .int .i64 t, .int .i64 c, .int .i64 s]] w fun e w' => PktPost w w' e (repB a h r lo hi k t c s) (pkt 2 (repInts a h r n lo hi k t c s)) := by
  have hn := wf_u64 hw.q.n
  have hi' := Lib.hid hw.ints
  rcases hb : repB a h r lo hi k t c s with _ | _
  all_goals
    have HB := Lib.hid hb
    clear hb
    go_enter Tryz.func41, Tryz.ntmps41
    go_wp2_with (first | (go_at_call 60; refine (reply_any _ _ _ _ _ _ _ _ _ _ _).mono ?_; rintro e w1 ⟨rfl, hE1⟩; rw [HB.out]; obtain ⟨hc1, hf1⟩ := hE1.rules; have hz1 := hE1.sz1) | (go_at_call 61; refine (khalves_any _ _ hn).mono ?_; rintro e w2 ⟨rfl, hE2⟩; obtain ⟨hc2, hf2⟩ := hE2.rules; have hz2 := Nat.lt_of_lt_of_le hz1 hE2.sz) | (go_at_call 62; refine (put_pkt 2 (by omega) _ _ _ [a, h, r, n / 4294967296, n % 4294967296, lo, hi, k, t, c, s] _ (newSlAt .i64 3 _ _ _ _ _ (by simp) rfl rfl (by simp [maxLen]) hi'.out) (by simp)).mono ?_; rintro e w3 ⟨v, rfl, hN⟩))
  · go_ret2
    exact pktPost_no rfl (((Ext.refl w).alloc _).trans hE1)
  · go_ret2
    exact pktPost_yes rfl hN (pkt_wf (by omega) _) (((((((Ext.refl w).alloc _).trans hE1).trans hE2).alloc _)).alloc _)

end Go.Proofs.YtdmfdimhjemngaaGreatDoor

/-
  Reading a request: the reference.
-/
namespace Go.Proofs.YtdmfdimhjemngaaGreatDoor
open Go.RowKit Go.Sort Go.Shelf
set_option linter.unusedSimpArgs false
set_option linter.unusedVariables false
set_option maxRecDepth 100000

def halfB (n : Int) : Bool := inB n 0 4294967295
theorem half_any (n : Int) (w : World) : Calls Tryz.prog 80 #[.int .i64 n] w fun e w' => e = .returned (.bool (halfB n)) ∧ w = w' := by
  unfold halfB
  go_enter Tryz.func80, Tryz.ntmps80
  go_wp2_with (refine (in_any _ _ _ _).mono ?_; rintro e w' ⟨rfl, rfl⟩)
  go_ret
  exact ⟨rfl, rfl⟩

/-- The integers of a packet of a kind, so many. -/
def lints (k : Int) (m : Nat) : List Int → Option (List Int)
  | [] => none
  | c :: t => if c = k then match lget t with
    | some l => if l.length = m then some l else none
    | none => none
    else none

abbrev Req4 := Int × Int × Int × Int
/-- The request of integers. -/
def reqOf : List Int → Option Req4
  | [h, a, r, u, l] => if (halfB u && halfB l && reqB h a r) = true then some (h, a, r, u * 4294967296 + l) else none
  | _ => none
def lreq (xs : List Int) : Option Req4 := (lints 1 5 xs).bind reqOf

def reqV (q : Req4) : Value := .agg #[.int .i64 q.1, .int .i64 q.2.1, .int .i64 q.2.2.1, .int .u64 q.2.2.2]
def ReqPost (w w' : World) (e : Ending) (o : Option Req4) : Prop := e = .returned (.tuple #[reqV (o.getD (0, 0, 0, 0)), .int .i64 (if o.isSome then 0 else 7)]) ∧ Ext w w'

theorem reqPost_no {w w' : World} {e : Ending} {o : Option Req4} (ho : o = none) (h : e = .returned (.tuple #[.agg #[.int .i64 0, .int .i64 0, .int .i64 0, .int .u64 0], .int .i64 7])) (hE : Ext w w') : ReqPost w w' e o := by
  subst ho; exact ⟨h, hE⟩
theorem reqPost_yes {w w' : World} {e : Ending} {o : Option Req4} {h a r n : Int} (ho : o = some (h, a, r, n)) (he : e = .returned (.tuple #[.agg #[.int .i64 h, .int .i64 a, .int .i64 r, .int .u64 n], .int .i64 0])) (hE : Ext w w') : ReqPost w w' e o := by
  subst ho; exact ⟨he, hE⟩

theorem nth_cons (c : Int) (t : List Int) : nth (c :: t) 0 = c := rfl

end Go.Proofs.YtdmfdimhjemngaaGreatDoor

/-
  Reading a reply: the reference.
-/
namespace Go.Proofs.YtdmfdimhjemngaaGreatDoor
open Go.RowKit Go.Sort Go.Shelf
set_option linter.unusedSimpArgs false
set_option linter.unusedVariables false
set_option maxRecDepth 100000

structure Rep where
  a : Int
  h : Int
  r : Int
  n : Int
  lo : Int
  hi : Int
  k : Int
  t : Int
  c : Int
  s : Int
deriving DecidableEq
def rep0 : Rep := ⟨0, 0, 0, 0, 0, 0, 0, 0, 0, 0⟩
/-- The reply of integers. -/
def repOf : List Int → Option Rep
  | [a, h, r, u, l, lo, hi, k, t, c, s] => if (halfB u && halfB l && repB a h r lo hi k t c s) = true then some ⟨a, h, r, u * 4294967296 + l, lo, hi, k, t, c, s⟩ else none
  | _ => none
def lrep (xs : List Int) : Option Rep := (lints 2 11 xs).bind repOf

def repV (q : Rep) : Value := .agg #[.int .i64 q.a, .int .i64 q.h, .int .i64 q.r, .int .u64 q.n, .int .i64 q.lo, .int .i64 q.hi, .int .i64 q.k, .int .i64 q.t, .int .i64 q.c, .int .i64 q.s]
def RepPost (w w' : World) (e : Ending) (o : Option Rep) : Prop := e = .returned (.tuple #[repV (o.getD rep0), .int .i64 (if o.isSome then 0 else 7)]) ∧ Ext w w'

theorem repPost_no {w w' : World} {e : Ending} {o : Option Rep} (ho : o = none) (h : e = .returned (.tuple #[.agg #[.int .i64 0, .int .i64 0, .int .i64 0, .int .u64 0, .int .i64 0, .int .i64 0, .int .i64 0, .int .i64 0, .int .i64 0, .int .i64 0], .int .i64 7])) (hE : Ext w w') : RepPost w w' e o := by
  subst ho; exact ⟨h, hE⟩
theorem repPost_yes {w w' : World} {e : Ending} {o : Option Rep} {q : Rep} (ho : o = some q) (he : e = .returned (.tuple #[repV q, .int .i64 0])) (hE : Ext w w') : RepPost w w' e o := by
  subst ho; exact ⟨he, hE⟩

def RepBlk (W : World) (b : Nat) (q : Rep) : Prop := W.heap[b]? = some (.cells #[.int .i64 q.a, .int .i64 q.h, .int .i64 q.r, .int .u64 q.n, .int .i64 q.lo, .int .i64 q.hi, .int .i64 q.k, .int .i64 q.t, .int .i64 q.c, .int .i64 q.s] 60 (0, 0))
theorem RepBlk.stored {W : World} {b : Nat} {q : Rep} (hb : RepBlk W b q) (a h r n lo hi k t c s : Int) : RepBlk ((((((((((W.setCell ⟨b, 0, none⟩ (.int .i64 a)).setCell ⟨b, 1, none⟩ (.int .i64 h)).setCell ⟨b, 2, none⟩ (.int .i64 r)).setCell ⟨b, 3, none⟩ (.int .u64 n)).setCell ⟨b, 4, none⟩ (.int .i64 lo)).setCell ⟨b, 5, none⟩ (.int .i64 hi)).setCell ⟨b, 6, none⟩ (.int .i64 k)).setCell ⟨b, 7, none⟩ (.int .i64 t)).setCell ⟨b, 8, none⟩ (.int .i64 c)).setCell ⟨b, 9, none⟩ (.int .i64 s)) b ⟨a, h, r, n, lo, hi, k, t, c, s⟩ := by
  have g1 : (W.setCell ⟨b, 0, none⟩ (.int .i64 a)).heap[b]? = some (.cells #[.int .i64 a, .int .i64 q.h, .int .i64 q.r, .int .u64 q.n, .int .i64 q.lo, .int .i64 q.hi, .int .i64 q.k, .int .i64 q.t, .int .i64 q.c, .int .i64 q.s] 60 (0, 0)) := heap_setCell_same _ b 0 _ _ _ hb
  have g2 : ((W.setCell ⟨b, 0, none⟩ (.int .i64 a)).setCell ⟨b, 1, none⟩ (.int .i64 h)).heap[b]? = some (.cells #[.int .i64 a, .int .i64 h, .int .i64 q.r, .int .u64 q.n, .int .i64 q.lo, .int .i64 q.hi, .int .i64 q.k, .int .i64 q.t, .int .i64 q.c, .int .i64 q.s] 60 (0, 0)) := heap_setCell_same _ b 1 _ _ _ g1
  have g3 : (((W.setCell ⟨b, 0, none⟩ (.int .i64 a)).setCell ⟨b, 1, none⟩ (.int .i64 h)).setCell ⟨b, 2, none⟩ (.int .i64 r)).heap[b]? = some (.cells #[.int .i64 a, .int .i64 h, .int .i64 r, .int .u64 q.n, .int .i64 q.lo, .int .i64 q.hi, .int .i64 q.k, .int .i64 q.t, .int .i64 q.c, .int .i64 q.s] 60 (0, 0)) := heap_setCell_same _ b 2 _ _ _ g2
  have g4 : ((((W.setCell ⟨b, 0, none⟩ (.int .i64 a)).setCell ⟨b, 1, none⟩ (.int .i64 h)).setCell ⟨b, 2, none⟩ (.int .i64 r)).setCell ⟨b, 3, none⟩ (.int .u64 n)).heap[b]? = some (.cells #[.int .i64 a, .int .i64 h, .int .i64 r, .int .u64 n, .int .i64 q.lo, .int .i64 q.hi, .int .i64 q.k, .int .i64 q.t, .int .i64 q.c, .int .i64 q.s] 60 (0, 0)) := heap_setCell_same _ b 3 _ _ _ g3
  have g5 : (((((W.setCell ⟨b, 0, none⟩ (.int .i64 a)).setCell ⟨b, 1, none⟩ (.int .i64 h)).setCell ⟨b, 2, none⟩ (.int .i64 r)).setCell ⟨b, 3, none⟩ (.int .u64 n)).setCell ⟨b, 4, none⟩ (.int .i64 lo)).heap[b]? = some (.cells #[.int .i64 a, .int .i64 h, .int .i64 r, .int .u64 n, .int .i64 lo, .int .i64 q.hi, .int .i64 q.k, .int .i64 q.t, .int .i64 q.c, .int .i64 q.s] 60 (0, 0)) := heap_setCell_same _ b 4 _ _ _ g4
  have g6 : ((((((W.setCell ⟨b, 0, none⟩ (.int .i64 a)).setCell ⟨b, 1, none⟩ (.int .i64 h)).setCell ⟨b, 2, none⟩ (.int .i64 r)).setCell ⟨b, 3, none⟩ (.int .u64 n)).setCell ⟨b, 4, none⟩ (.int .i64 lo)).setCell ⟨b, 5, none⟩ (.int .i64 hi)).heap[b]? = some (.cells #[.int .i64 a, .int .i64 h, .int .i64 r, .int .u64 n, .int .i64 lo, .int .i64 hi, .int .i64 q.k, .int .i64 q.t, .int .i64 q.c, .int .i64 q.s] 60 (0, 0)) := heap_setCell_same _ b 5 _ _ _ g5
  have g7 : (((((((W.setCell ⟨b, 0, none⟩ (.int .i64 a)).setCell ⟨b, 1, none⟩ (.int .i64 h)).setCell ⟨b, 2, none⟩ (.int .i64 r)).setCell ⟨b, 3, none⟩ (.int .u64 n)).setCell ⟨b, 4, none⟩ (.int .i64 lo)).setCell ⟨b, 5, none⟩ (.int .i64 hi)).setCell ⟨b, 6, none⟩ (.int .i64 k)).heap[b]? = some (.cells #[.int .i64 a, .int .i64 h, .int .i64 r, .int .u64 n, .int .i64 lo, .int .i64 hi, .int .i64 k, .int .i64 q.t, .int .i64 q.c, .int .i64 q.s] 60 (0, 0)) := heap_setCell_same _ b 6 _ _ _ g6
  have g8 : ((((((((W.setCell ⟨b, 0, none⟩ (.int .i64 a)).setCell ⟨b, 1, none⟩ (.int .i64 h)).setCell ⟨b, 2, none⟩ (.int .i64 r)).setCell ⟨b, 3, none⟩ (.int .u64 n)).setCell ⟨b, 4, none⟩ (.int .i64 lo)).setCell ⟨b, 5, none⟩ (.int .i64 hi)).setCell ⟨b, 6, none⟩ (.int .i64 k)).setCell ⟨b, 7, none⟩ (.int .i64 t)).heap[b]? = some (.cells #[.int .i64 a, .int .i64 h, .int .i64 r, .int .u64 n, .int .i64 lo, .int .i64 hi, .int .i64 k, .int .i64 t, .int .i64 q.c, .int .i64 q.s] 60 (0, 0)) := heap_setCell_same _ b 7 _ _ _ g7
  have g9 : (((((((((W.setCell ⟨b, 0, none⟩ (.int .i64 a)).setCell ⟨b, 1, none⟩ (.int .i64 h)).setCell ⟨b, 2, none⟩ (.int .i64 r)).setCell ⟨b, 3, none⟩ (.int .u64 n)).setCell ⟨b, 4, none⟩ (.int .i64 lo)).setCell ⟨b, 5, none⟩ (.int .i64 hi)).setCell ⟨b, 6, none⟩ (.int .i64 k)).setCell ⟨b, 7, none⟩ (.int .i64 t)).setCell ⟨b, 8, none⟩ (.int .i64 c)).heap[b]? = some (.cells #[.int .i64 a, .int .i64 h, .int .i64 r, .int .u64 n, .int .i64 lo, .int .i64 hi, .int .i64 k, .int .i64 t, .int .i64 c, .int .i64 q.s] 60 (0, 0)) := heap_setCell_same _ b 8 _ _ _ g8
  have g10 : ((((((((((W.setCell ⟨b, 0, none⟩ (.int .i64 a)).setCell ⟨b, 1, none⟩ (.int .i64 h)).setCell ⟨b, 2, none⟩ (.int .i64 r)).setCell ⟨b, 3, none⟩ (.int .u64 n)).setCell ⟨b, 4, none⟩ (.int .i64 lo)).setCell ⟨b, 5, none⟩ (.int .i64 hi)).setCell ⟨b, 6, none⟩ (.int .i64 k)).setCell ⟨b, 7, none⟩ (.int .i64 t)).setCell ⟨b, 8, none⟩ (.int .i64 c)).setCell ⟨b, 9, none⟩ (.int .i64 s)).heap[b]? = some (.cells #[.int .i64 a, .int .i64 h, .int .i64 r, .int .u64 n, .int .i64 lo, .int .i64 hi, .int .i64 k, .int .i64 t, .int .i64 c, .int .i64 s] 60 (0, 0)) := heap_setCell_same _ b 9 _ _ _ g9
  exact g10
theorem RepBlk.ext {W W' : World} {b : Nat} {q : Rep} (h : RepBlk W b q) (he : Ext W W') : RepBlk W' b q := (he.block b (Array.getElem?_eq_some_iff.1 h).1).trans h

theorem res_rget (W : World) (b : Nat) (q : Rep) (k : Int) (tmps : Array Value) (h2 : tmps[2]?.getD undef = .pointer (some ⟨b, 0, none⟩)) (h3 : tmps[3]?.getD undef = .int .i64 k) (hb : RepBlk W b q) :
    (results Tryz.f56 tmps).run Tryz.prog W = .ok (.tuple #[repV q, .int .i64 k]) W := by
  have c0 := cell_of_block hb 0 _ rfl
  have c1 := cell_of_block hb 1 _ rfl
  have c2 := cell_of_block hb 2 _ rfl
  have c3 := cell_of_block hb 3 _ rfl
  have c4 := cell_of_block hb 4 _ rfl
  have c5 := cell_of_block hb 5 _ rfl
  have c6 := cell_of_block hb 6 _ rfl
  have c7 := cell_of_block hb 7 _ rfl
  have c8 := cell_of_block hb 8 _ rfl
  have c9 := cell_of_block hb 9 _ rfl
  simp [results, Tryz.results56, go_sem, h2, h3, c0, c1, c2, c3, c4, c5, c6, c7, c8, c9, repV]

set_option maxHeartbeats 1000000 in
theorem rgetReply_any (a1 : Option Addr) (n1 c1 : Nat) (xs : List Int) (w : World) (h1 : Sl .u8 w a1 n1 c1 xs) (hn1 : n1 ≤ 1000000000) :
    Calls Tryz.prog 56 #[.slice a1 n1 c1] w fun e w' => RepPost w w' e (lrep xs) := by
  have b1 := h1.bd
  have e1 := h1.hlen
  rcases xs with _ | ⟨c, t⟩
  · obtain rfl : n1 = 0 := by simpa using e1.symm
    clear e1
    go_enter Tryz.func56, Tryz.ntmps56
    go_wp2
    go_returns
    exact repPost_no rfl (by simp) (((Ext.refl w).alloc _))
  · have hp : 0 < n1 := by rw [← e1]; simp
    obtain ⟨x1, o1, rfl, hc⟩ := h1.at hp
    have hx0 := (hc 0 hp)
    rw [nth_cons, Nat.add_zero] at hx0
    clear hc
    have hxl : x1 < w.heap.size := lt_of_cell hx0
    have hm1 : ((n1 : Int) == 0) = false := by simp; omega
    by_cases hk : c = 2
    · subst hk
      have ht := h1.from (m := 1) hp
      rw [List.drop_succ_cons, List.drop_zero] at ht
      have hsl : ∀ w, (Instr.slice 30 (.slice (some ⟨x1, o1, none⟩) n1 c1) (some (.int .i64 1)) none none).run Tryz.prog w = .ok (.slice (subA (some ⟨x1, o1, none⟩) c1 1) (n1 - 1) (c1 - 1)) w := run_from (P := Tryz.prog) (T := 30) (by kernel_rfl) (fun _ => by kernel_rfl) (some ⟨x1, o1, none⟩) n1 c1 1 hp
      have hl0 : lrep (2 :: t) = (match lget t with | some l => if l.length = 11 then repOf l else none | none => none) := by
        unfold lrep lints
        simp only [if_true]
        rcases lget t with _ | l
        · rfl
        · by_cases h5 : l.length = 11
          · simp [h5]
          · simp [h5]
      have HL := Lib.hid hl0
      have E1 := Lib.hid e1
      clear hl0 e1
      rcases hr : lget t with _ | l
      · have HR := Lib.hid hr
        clear hr
        go_enter Tryz.func56, Tryz.ntmps56
        go_wp2_with fail
        refine (rget_any _ _ _ t _ (ht.ext ((Ext.refl w).alloc _))).mono ?_
        intro e w2 hp2
        rw [HR.out] at hp2
        obtain ⟨rfl, hE2⟩ := hp2
        obtain ⟨hc2, hf2⟩ := hE2.rules
        have hz2 := hE2.sz1
        have hb0 : RepBlk w2 w.heap.size ⟨0, 0, 0, 0, 0, 0, 0, 0, 0, 0⟩ := RepBlk.ext (World.alloc_heap_new w _) hE2
        go_wp2
        refine bodyPost_ret (v := .tuple #[repV ⟨0, 0, 0, 0, 0, 0, 0, 0, 0, 0⟩, .int .i64 7]) (by first | exact res_rget _ _ _ _ _ rfl rfl (RepBlk.stored hb0 0 0 0 0 0 0 0 0 0 0)) rfl ?_
        exact repPost_no (by rw [HL.out, HR.out]) rfl (by have hX := ((Ext.refl w).alloc _).trans hE2; repeat' (first | with_reducible exact hX | with_reducible refine Ext.setCell ?_ (Nat.le_refl _) _))
      · by_cases h5 : l.length = 11
        · match l, h5 with
          | [y0, y1, y2, y3, y4, y5, y6, y7, y8, y9, y10], _ =>
          have HR := Lib.hid hr
          clear hr
          go_enter Tryz.func56, Tryz.ntmps56
          go_wp2_with fail
          refine (rget_any _ _ _ t _ (ht.ext ((Ext.refl w).alloc _))).mono ?_
          intro e w2 hp2
          rw [HR.out] at hp2
          obtain ⟨a2, c2, rfl, ho2, hE2⟩ := hp2
          have hs2 := ho2.sl (lget_wf (i := 0) (j := t.length) ht.wf (by simpa using HR.out))
          obtain ⟨x2, o2, rfl, hcl⟩ := hs2.at (by simp)
          have f0 := hcl 0 (by simp)
          have f1 := hcl 1 (by simp)
          have f2 := hcl 2 (by simp)
          have f3 := hcl 3 (by simp)
          have f4 := hcl 4 (by simp)
          have f5 := hcl 5 (by simp)
          have f6 := hcl 6 (by simp)
          have f7 := hcl 7 (by simp)
          have f8 := hcl 8 (by simp)
          have f9 := hcl 9 (by simp)
          have f10 := hcl 10 (by simp)
          have v3 := wf_i64 (hs2.wf y3 (by simp))
          have v4 := wf_i64 (hs2.wf y4 (by simp))
          simp only [nth, List.getD_cons_zero, List.getD_cons_succ, Nat.add_zero] at f0 f1 f2 f3 f4 f5 f6 f7 f8 f9 f10
          obtain ⟨hc2, hf2⟩ := hE2.rules
          have hz2 := hE2.sz1
          have hb0 : RepBlk w2 w.heap.size ⟨0, 0, 0, 0, 0, 0, 0, 0, 0, 0⟩ := RepBlk.ext (World.alloc_heap_new w _) hE2
          simp only [List.length_cons, List.length_nil, Nat.zero_add]
          have hx2l : x2 < w2.heap.size := lt_of_cell f0
          clear hcl ho2 hs2
          rcases q3 : halfB y3 with _ | _
          · have Q3 := Lib.hid q3
            clear q3
            go_wp2_with (first | (go_at_call 80; refine (half_any _ _).mono ?_; rintro e w' ⟨rfl, rfl⟩; try rw [Q3.out]))
            all_goals (refine bodyPost_ret (v := .tuple #[repV ⟨0, 0, 0, 0, 0, 0, 0, 0, 0, 0⟩, .int .i64 7]) (by first | exact res_rget _ _ _ _ _ rfl rfl (RepBlk.stored hb0 0 0 0 0 0 0 0 0 0 0)) rfl ?_; exact repPost_no (by rw [HL.out, HR.out]; simp [repOf, Q3.out]) rfl (by have hX := ((Ext.refl w).alloc _).trans hE2; repeat' (first | with_reducible exact hX | with_reducible refine Ext.setCell ?_ (Nat.le_refl _) _)))
          · rcases q4 : halfB y4 with _ | _
            · have Q3 := Lib.hid q3
              have Q4 := Lib.hid q4
              clear q3 q4
              go_wp2_with (first | (go_at_call 80; refine (half_any _ _).mono ?_; rintro e w' ⟨rfl, rfl⟩; first | rw [Q3.out] | rw [Q4.out]))
              refine bodyPost_ret (v := .tuple #[repV ⟨0, 0, 0, 0, 0, 0, 0, 0, 0, 0⟩, .int .i64 7]) (by first | exact res_rget _ _ _ _ _ rfl rfl (RepBlk.stored hb0 0 0 0 0 0 0 0 0 0 0)) rfl ?_
              exact repPost_no (by rw [HL.out, HR.out]; simp [repOf, Q3.out, Q4.out]) rfl (by have hX := ((Ext.refl w).alloc _).trans hE2; repeat' (first | with_reducible exact hX | with_reducible refine Ext.setCell ?_ (Nat.le_refl _) _))
            · have r3 := inB_iff.1 q3
              have r4 := inB_iff.1 q4
              have Q3 := Lib.hid q3
              have Q4 := Lib.hid q4
              clear q3 q4
              go_wp2_with (first | (go_at_call 80; refine (half_any _ _).mono ?_; rintro e w' ⟨rfl, rfl⟩; first | rw [Q3.out] | rw [Q4.out]))
              have w3a : IntKind.u64.wrap y3 = y3 := IntWalk.u64_in _ ⟨by omega, by omega⟩
              have w4a : IntKind.u64.wrap y4 = y4 := IntWalk.u64_in _ ⟨by omega, by omega⟩
              have w3b : IntKind.u64.wrap (y3 * 4294967296) = y3 * 4294967296 := IntWalk.u64_in _ ⟨by omega, by omega⟩
              have w34 : IntKind.u64.wrap (y3 * 4294967296 + y4) = y3 * 4294967296 + y4 := IntWalk.u64_in _ ⟨by omega, by omega⟩
              refine region_mk 40 _ 8 #[.int .i64 0, .int .i64 0, .int .i64 0, .int .u64 0, .int .i64 0, .int .i64 0, .int .i64 0, .int .i64 0, .int .i64 0, .int .i64 0] 60 _ (by kernel_rfl) (by kernel_rfl) rfl rfl (fun _ => rfl) (fun a W => by simp [execOp, go_sem]) rfl (by kernel_rfl) ?_
              apply Exists.intro
              refine ⟨fun W0 hE0 => ?_, fun b W hE3 hb hblk => ?_⟩
              · have g0 := cellG (hE0.cell f0)
                have g1 := cellG (hE0.cell f1)
                have g2 := cellG (hE0.cell f2)
                have g3 := cellG (hE0.cell f3)
                have g4 := cellG (hE0.cell f4)
                have g5 := cellG (hE0.cell f5)
                have g6 := cellG (hE0.cell f6)
                have g7 := cellG (hE0.cell f7)
                have g8 := cellG (hE0.cell f8)
                have g9 := cellG (hE0.cell f9)
                have g10 := cellG (hE0.cell f10)
                simp only [List.take_succ_cons, List.take_zero]
                repeat (go_big_quiet_step (fail))
                refine wpQuiet_nil ?_
                rfl
              · clear w3a w4a w3b w34
                simp only [List.drop_succ_cons, List.drop_zero, Act.put, List.setIfInBounds_toArray, List.set_cons_zero, List.set_cons_succ]
                have hz3 := lt_of_block hblk
                have k0 := cell_of_block hblk 0 _ rfl
                have k1 := cell_of_block hblk 1 _ rfl
                have k2 := cell_of_block hblk 2 _ rfl
                have k3 := cell_of_block hblk 3 _ rfl
                have k4 := cell_of_block hblk 4 _ rfl
                have k5 := cell_of_block hblk 5 _ rfl
                have k6 := cell_of_block hblk 6 _ rfl
                have k7 := cell_of_block hblk 7 _ rfl
                have k8 := cell_of_block hblk 8 _ rfl
                have k9 := cell_of_block hblk 9 _ rfl
                have kf := free_of_block hblk
                go_wp2_with fail
                refine (rreply_any _ _ _ _ _ _ _ _ _ _ _).mono ?_
                rintro e w4 ⟨rfl, hE4⟩
                have hE5 : Ext w2 w4 := Ext.trans (by repeat' (first | with_reducible exact hE3 | with_reducible refine Ext.setCell ?_ hb _)) hE4
                have m0 := hE4.cell (a := ⟨b, 0, none⟩) (v := .int .i64 y0) (by go_cell)
                have m1 := hE4.cell (a := ⟨b, 1, none⟩) (v := .int .i64 y1) (by go_cell)
                have m2 := hE4.cell (a := ⟨b, 2, none⟩) (v := .int .i64 y2) (by go_cell)
                have m3 := hE4.cell (a := ⟨b, 3, none⟩) (v := .int .u64 (y3 * 4294967296 + y4)) (by go_cell)
                have m4 := hE4.cell (a := ⟨b, 4, none⟩) (v := .int .i64 y5) (by go_cell)
                have m5 := hE4.cell (a := ⟨b, 5, none⟩) (v := .int .i64 y6) (by go_cell)
                have m6 := hE4.cell (a := ⟨b, 6, none⟩) (v := .int .i64 y7) (by go_cell)
                have m7 := hE4.cell (a := ⟨b, 7, none⟩) (v := .int .i64 y8) (by go_cell)
                have m8 := hE4.cell (a := ⟨b, 8, none⟩) (v := .int .i64 y9) (by go_cell)
                have m9 := hE4.cell (a := ⟨b, 9, none⟩) (v := .int .i64 y10) (by go_cell)
                obtain ⟨hc5, hf5⟩ := hE5.rules
                have hb4 := hb0.ext hE5
                clear hE3 hE4 k0 k1 k2 k3 k4 k5 k6 k7 k8 k9 kf hblk
                rcases hq : repB y0 y1 y2 y5 y6 y7 y8 y9 y10 with _ | _
                · have HQ := Lib.hid hq
                  clear hq
                  go_wp2
                  refine bodyPost_ret (v := .tuple #[repV ⟨0, 0, 0, 0, 0, 0, 0, 0, 0, 0⟩, .int .i64 7]) (by first | exact res_rget _ _ _ _ _ rfl rfl (RepBlk.stored hb4 0 0 0 0 0 0 0 0 0 0)) rfl ?_
                  exact repPost_no (by rw [HL.out, HR.out]; simp [repOf, Q3.out, Q4.out, HQ.out]) rfl (by have hX := (((Ext.refl w).alloc _).trans hE2).trans hE5; repeat' (first | with_reducible exact hX | with_reducible refine Ext.setCell ?_ (Nat.le_refl _) _))
                · have HQ := Lib.hid hq
                  clear hq
                  go_wp2
                  refine bodyPost_ret (v := .tuple #[repV ⟨y0, y1, y2, y3 * 4294967296 + y4, y5, y6, y7, y8, y9, y10⟩, .int .i64 0]) (by first | exact res_rget _ _ _ _ _ rfl rfl (RepBlk.stored hb4 y0 y1 y2 (y3 * 4294967296 + y4) y5 y6 y7 y8 y9 y10)) rfl ?_
                  exact repPost_yes (by rw [HL.out, HR.out]; simp [repOf, Q3.out, Q4.out, HQ.out]) rfl (by have hX := (((Ext.refl w).alloc _).trans hE2).trans hE5; repeat' (first | with_reducible exact hX | with_reducible refine Ext.setCell ?_ (Nat.le_refl _) _))
        · have h5' : ((l.length : Int) != 11) = true := by simp; omega
          have HR := Lib.hid hr
          have H5 := Lib.hid h5
          clear hr h5
          go_enter Tryz.func56, Tryz.ntmps56
          go_wp2_with fail
          refine (rget_any _ _ _ t _ (ht.ext ((Ext.refl w).alloc _))).mono ?_
          intro e w2 hp2
          rw [HR.out] at hp2
          obtain ⟨a2, c2, rfl, ho2, hE2⟩ := hp2
          obtain ⟨hc2, hf2⟩ := hE2.rules
          have hz2 := hE2.sz1
          have hb0 : RepBlk w2 w.heap.size ⟨0, 0, 0, 0, 0, 0, 0, 0, 0, 0⟩ := RepBlk.ext (World.alloc_heap_new w _) hE2
          go_wp2
          refine bodyPost_ret (v := .tuple #[repV ⟨0, 0, 0, 0, 0, 0, 0, 0, 0, 0⟩, .int .i64 7]) (by first | exact res_rget _ _ _ _ _ rfl rfl (RepBlk.stored hb0 0 0 0 0 0 0 0 0 0 0)) rfl ?_
          exact repPost_no (by rw [HL.out, HR.out]; exact if_neg H5.out) rfl (by have hX := ((Ext.refl w).alloc _).trans hE2; repeat' (first | with_reducible exact hX | with_reducible refine Ext.setCell ?_ (Nat.le_refl _) _))
    · have hk' : (c != 2) = true := by simpa using hk
      have HL : Hid (lrep (c :: t) = none) := by unfold Hid lrep lints; simp only [if_neg hk]; rfl
      clear e1 hk
      go_enter Tryz.func56, Tryz.ntmps56
      go_wp2
      go_returns
      exact repPost_no HL.out (by simp) (((Ext.refl w).alloc _))

end Go.Proofs.YtdmfdimhjemngaaGreatDoor

/-
  A nonce put together; what a read request is made of.
-/
namespace Go.Proofs.YtdmfdimhjemngaaGreatDoor
open Go.RowKit Go.Sort Go.Shelf
set_option linter.unusedSimpArgs false
set_option linter.unusedVariables false
set_option maxRecDepth 100000

theorem grown_of_ext {w w' : World} (h : Ext w w') (row : Option Nat) : w.grownBy w' row := ⟨h.os, h.tape, h.output, h.size, fun k hk _ => h.block k hk⟩
theorem grown_new {w w' : World} {row : Option Nat} (hg : w.grownBy w' row) (j : Nat) (v : Value) : w.grownBy (w'.setCell ⟨w.heap.size, j, none⟩ v) row :=
  ⟨hg.os, hg.tape, hg.output, by simpa using hg.size, fun k hk hne => (heap_setCell_other w' ⟨w.heap.size, j, none⟩ k v (by simp; omega)).trans (hg.block k hk hne)⟩
theorem grown_drewR {w w' : World} {row : Option Nat} (hg : w.grownBy w' row) : w.grownBy w'.drew row := ⟨hg.os, hg.tape, hg.output, hg.size, hg.block⟩
theorem below_of_grown {base : Nat} {w w' : World} {r : Nat} (hg : w.grownBy w' (some r)) (hb : base ≤ r) (hw : base ≤ w.heap.size) : Below base w w' :=
  (Below.refl base w).grown hg hw fun k hk => by cases hk; exact hb

theorem halfB_eq (n : Int) : halfB n = decide (0 ≤ n ∧ n < 4294967296) := by
  unfold halfB inB
  rw [Bool.eq_iff_iff]; simp; omega

theorem kright_any (n : Int) (w : World) : Calls Tryz.prog 94 #[.int .i64 n] w fun e w' => e = .returned (.bool (halfB n)) ∧ Ext w w' := by
  rw [halfB_eq]
  go_enter Tryz.func94, Tryz.ntmps94
  go_wp2
  all_goals
    go_ret
    refine ⟨ret_bool ?_, Ext.refl w⟩
    simp_all <;> omega

def wholeV (u l : Int) : Int := bits .or .u64 (IntKind.u64.wrap (IntKind.u64.wrap u * 4294967296)) (IntKind.u64.wrap l)
theorem wholeV_eq {u l : Int} (hu : halfB u = true) (hl : halfB l = true) : wholeV u l = u * 4294967296 + l := by
  have h1 := inB_iff.1 hu
  have h2 := inB_iff.1 hl
  unfold wholeV
  rw [IntWalk.u64_in u ⟨by omega, by omega⟩, IntWalk.u64_in l ⟨by omega, by omega⟩, IntWalk.u64_in (u * 4294967296) ⟨by omega, by omega⟩]
  obtain ⟨a, rfl⟩ : ∃ a : Nat, u = (a : Int) := ⟨u.toNat, by omega⟩
  obtain ⟨b, rfl⟩ : ∃ b : Nat, l = (b : Int) := ⟨l.toNat, by omega⟩
  have e1 : (a : Int) * 4294967296 = ((a * 4294967296 : Nat) : Int) := by omega
  rw [e1]
  show IntKind.u64.wrap ((BitVec.ofInt 64 ((a * 4294967296 : Nat) : Int) ||| BitVec.ofInt 64 (b : Int)).toNat : Int) = _
  rw [BitVec.toNat_or, BitVec.ofInt_natCast, BitVec.ofInt_natCast, BitVec.toNat_ofNat, BitVec.toNat_ofNat, Nat.mod_eq_of_lt (by omega), Nat.mod_eq_of_lt (by omega)]
  have h3 := Nat.two_pow_add_eq_or_of_lt (i := 32) (b := b) (by omega) a
  rw [show a * 4294967296 = 2 ^ 32 * a by omega, ← h3, IntKind.wrap_u64]
  omega

set_option maxHeartbeats 1000000 in
theorem whole_any (u l : Int) (w : World) : Calls Tryz.prog 78 #[.agg #[.int .i64 u, .int .i64 l]] w fun e w' => e = .returned (.tuple #[.int .u64 (wholeV u l), .bool (halfB u && halfB l)]) ∧ Ext w w' := by
  rcases hu : halfB u with _ | _
  all_goals
    have HUc : Hid (∀ w, Calls Tryz.prog 94 #[.int .i64 u] w fun e w' => e = .returned (.bool (halfB u)) ∧ Ext w w') := fun w => kright_any u w
    have HLc : Hid (∀ w, Calls Tryz.prog 94 #[.int .i64 l] w fun e w' => e = .returned (.bool (halfB l)) ∧ Ext w w') := fun w => kright_any l w
    rw [hu] at HUc
    have HU := Lib.hid hu
    clear hu
    go_enter Tryz.func78, Tryz.ntmps78
    go_wp2_with fail
    refine region_ext (by kernel_rfl) (by kernel_rfl) ?_
    have hg := @grow_cell
    repeat (go_big_quiet_step (first | (go_at_call 94; first | with_reducible exact Calls.regrown_of (HUc.out _) | with_reducible exact Calls.regrown_of (HLc.out _))))
    refine wpQuiet_nil ?_
    intro w1 hE1
    go_wp2
    go_ret2
    exact ⟨rfl, ((Ext.refl w).alloc _).trans hE1⟩

/-- What stands behind a pointer while a request is read. -/
def NonceBlk (W : World) (b : Nat) (u l : Int) : Prop := W.heap[b]? = some (.cells #[.int .i64 u, .int .i64 l] 90 (0, 0))
def ReqBlk (W : World) (b : Nat) (h a r n : Int) : Prop := W.heap[b]? = some (.cells #[.int .i64 h, .int .i64 a, .int .i64 r, .int .u64 n] 51 (0, 0))

end Go.Proofs.YtdmfdimhjemngaaGreatDoor

/-
  Reading a request: the program.
-/
namespace Go.Proofs.YtdmfdimhjemngaaGreatDoor
open Go.RowKit Go.Sort Go.Shelf
set_option linter.unusedSimpArgs false
set_option linter.unusedVariables false
set_option maxRecDepth 100000

theorem ReqBlk.ext {W W' : World} {b : Nat} {h a r n : Int} (hb : ReqBlk W b h a r n) (he : Ext W W') : ReqBlk W' b h a r n := (he.block b (Array.getElem?_eq_some_iff.1 hb).1).trans hb
theorem ReqBlk.stored {W : World} {b : Nat} {h0 a0 r0 n0 : Int} (hb : ReqBlk W b h0 a0 r0 n0) (h a r n : Int) :
    ReqBlk ((((W.setCell ⟨b, 0, none⟩ (.int .i64 h)).setCell ⟨b, 1, none⟩ (.int .i64 a)).setCell ⟨b, 2, none⟩ (.int .i64 r)).setCell ⟨b, 3, none⟩ (.int .u64 n)) b h a r n := by
  have g1 : (W.setCell ⟨b, 0, none⟩ (.int .i64 h)).heap[b]? = some (.cells #[.int .i64 h, .int .i64 a0, .int .i64 r0, .int .u64 n0] 51 (0, 0)) := heap_setCell_same _ b 0 _ _ _ hb
  have g2 : ((W.setCell ⟨b, 0, none⟩ (.int .i64 h)).setCell ⟨b, 1, none⟩ (.int .i64 a)).heap[b]? = some (.cells #[.int .i64 h, .int .i64 a, .int .i64 r0, .int .u64 n0] 51 (0, 0)) := heap_setCell_same _ b 1 _ _ _ g1
  have g3 : (((W.setCell ⟨b, 0, none⟩ (.int .i64 h)).setCell ⟨b, 1, none⟩ (.int .i64 a)).setCell ⟨b, 2, none⟩ (.int .i64 r)).heap[b]? = some (.cells #[.int .i64 h, .int .i64 a, .int .i64 r, .int .u64 n0] 51 (0, 0)) := heap_setCell_same _ b 2 _ _ _ g2
  exact heap_setCell_same _ b 3 _ _ _ g3
theorem ReqBlk.other {W : World} {b : Nat} {h a r n : Int} (hb : ReqBlk W b h a r n) (c j : Nat) (v : Value) (hne : b ≠ c) : ReqBlk (W.setCell ⟨c, j, none⟩ v) b h a r n := (heap_setCell_other W ⟨c, j, none⟩ b v hne).trans hb

theorem NonceBlk.ext {W W' : World} {b : Nat} {u l : Int} (hb : NonceBlk W b u l) (he : Ext W W') : NonceBlk W' b u l := (he.block b (Array.getElem?_eq_some_iff.1 hb).1).trans hb

def GetPost1 (base : Nat) (w w' : World) (e : Ending) (o : Option Req4) : Prop := e = .returned (.tuple #[reqV (o.getD (0, 0, 0, 0)), .int .i64 (if o.isSome then 0 else 7)]) ∧ Below base w w'
theorem getPost1_no {base : Nat} {w w' : World} {e : Ending} {o : Option Req4} (ho : o = none) (h : e = .returned (.tuple #[.agg #[.int .i64 0, .int .i64 0, .int .i64 0, .int .u64 0], .int .i64 7])) (hE : Below base w w') : GetPost1 base w w' e o := by
  subst ho; exact ⟨h, hE⟩
theorem getPost1_yes {base : Nat} {w w' : World} {e : Ending} {o : Option Req4} {h a r n : Int} (ho : o = some (h, a, r, n)) (he : e = .returned (.tuple #[.agg #[.int .i64 h, .int .i64 a, .int .i64 r, .int .u64 n], .int .i64 0])) (hE : Below base w w') : GetPost1 base w w' e o := by
  subst ho; exact ⟨he, hE⟩

end Go.Proofs.YtdmfdimhjemngaaGreatDoor

/-
  GetRequest of the program.
-/
namespace Go.Proofs.YtdmfdimhjemngaaGreatDoor
open Go.RowKit Go.Sort Go.Shelf
set_option linter.unusedSimpArgs false
set_option linter.unusedVariables false
set_option maxRecDepth 100000

theorem alloc_at {W : World} {o : Obj} {b : Nat} (h : W.heap.size = b) : (W.alloc o).heap[b]? = some o := by subst h; exact World.alloc_heap_new W o
theorem alloc_keep {W : World} {o o' : Obj} {b : Nat} (h : W.heap[b]? = some o) : (W.alloc o').heap[b]? = some o := (Below.heap_alloc W o' b (Array.getElem?_eq_some_iff.1 h).1).trans h

end Go.Proofs.YtdmfdimhjemngaaGreatDoor

/-
  What a read reply is made of.
-/
namespace Go.Proofs.YtdmfdimhjemngaaGreatDoor
open Go.RowKit Go.Sort Go.Shelf
set_option linter.unusedSimpArgs false
set_option linter.unusedVariables false
set_option maxRecDepth 100000

/-- A reply, with its nonce in two halves, in memory. -/
def AnsBlk (W : World) (b : Nat) (a h r n lo hi k t c s u l : Int) : Prop := W.heap[b]? = some (.cells #[.int .i64 a, .int .i64 h, .int .i64 r, .int .u64 n, .int .i64 lo, .int .i64 hi, .int .i64 k, .int .i64 t, .int .i64 c, .int .i64 s, .int .i64 u, .int .i64 l] 92 (0, 0))
theorem AnsBlk.ext {W W' : World} {b : Nat} {a h r n lo hi k t c s u l : Int} (hb : AnsBlk W b a h r n lo hi k t c s u l) (he : Ext W W') : AnsBlk W' b a h r n lo hi k t c s u l := (he.block b (Array.getElem?_eq_some_iff.1 hb).1).trans hb

theorem res_made2 (W : World) (b : Nat) (q : Rep) (k : Bool) (tmps : Array Value) (h2 : tmps[2]?.getD undef = .pointer (some ⟨b, 0, none⟩)) (h3 : tmps[3]?.getD undef = .bool k) (hb : RepBlk W b q) :
    (results Tryz.f54 tmps).run Tryz.prog W = .ok (.tuple #[repV q, .bool k]) W := by
  have c0 := cell_of_block hb 0 (.int .i64 q.a) rfl
  have c1 := cell_of_block hb 1 (.int .i64 q.h) rfl
  have c2 := cell_of_block hb 2 (.int .i64 q.r) rfl
  have c3 := cell_of_block hb 3 (.int .u64 q.n) rfl
  have c4 := cell_of_block hb 4 (.int .i64 q.lo) rfl
  have c5 := cell_of_block hb 5 (.int .i64 q.hi) rfl
  have c6 := cell_of_block hb 6 (.int .i64 q.k) rfl
  have c7 := cell_of_block hb 7 (.int .i64 q.t) rfl
  have c8 := cell_of_block hb 8 (.int .i64 q.c) rfl
  have c9 := cell_of_block hb 9 (.int .i64 q.s) rfl
  simp [results, Tryz.results54, go_sem, h2, h3, c0, c1, c2, c3, c4, c5, c6, c7, c8, c9, repV]

set_option maxHeartbeats 1000000 in
theorem made2_any (A : Nat) (a h r n lo hi k t c s u l : Int) (w : World) (hA : AnsBlk w A a h r n lo hi k t c s u l) :
    Calls Tryz.prog 54 #[.pointer (some ⟨A, 0, none⟩)] w fun e w' => e = .returned (.tuple #[repV ⟨a, h, r, wholeV u l, lo, hi, k, t, c, s⟩, .bool ((halfB u && halfB l) && repB a h r lo hi k t c s)]) ∧ w.grownBy w' (some A) := by
  have n3 := cell_of_block hA 3 (.int .u64 n) rfl
  have n10 := cell_of_block hA 10 (.int .i64 u) rfl
  have n11 := cell_of_block hA 11 (.int .i64 l) rfl
  have rf := free_of_block hA
  have hAl := lt_of_block hA
  go_enter Tryz.func54, Tryz.ntmps54
  go_wp2_with (go_at_call 78; refine (whole_any _ _ _).mono ?_; rintro e w1 ⟨rfl, hE1⟩; obtain ⟨hc1, hf1⟩ := hE1.rules; have hz1 := hE1.sz1)
  have hA1 : AnsBlk w1 A a h r n lo hi k t c s u l := (hE1.block A (by simp; omega)).trans (alloc_keep hA)
  have hS1 : RepBlk w1 w.heap.size ⟨0, 0, 0, 0, 0, 0, 0, 0, 0, 0⟩ := (hE1.block _ (by simp)).trans (World.alloc_heap_new w _)
  have hA2 : AnsBlk (w1.setCell ⟨A, 3, none⟩ (.int .u64 (wholeV u l))) A a h r (wholeV u l) lo hi k t c s u l := heap_setCell_same w1 A 3 _ _ _ hA1
  have hS2 : RepBlk (w1.setCell ⟨A, 3, none⟩ (.int .u64 (wholeV u l))) w.heap.size ⟨0, 0, 0, 0, 0, 0, 0, 0, 0, 0⟩ := (heap_setCell_other w1 ⟨A, 3, none⟩ w.heap.size _ (by simp; omega)).trans hS1
  have hg2 : w.grownBy (w1.setCell ⟨A, 3, none⟩ (.int .u64 (wholeV u l))) (some A) := grown_set (grown_of_ext (((Ext.refl w).alloc _).trans hE1) _) _ _
  generalize w1.setCell ⟨A, 3, none⟩ (.int .u64 (wholeV u l)) = W2 at *
  clear hA1 hS1 hE1 hc1 hf1 hz1 n3 n10 n11 rf hA
  generalize hV : wholeV u l = V at *
  have HV := Lib.hid hV
  clear hV
  rcases hok : (halfB u && halfB l) with _ | _
  all_goals
    refine region_store 12 _ _ (by kernel_rfl) (by kernel_rfl) (by kernel_rfl) rfl (fun _ => rfl) rfl (by kernel_rfl) ?_
    apply Exists.intro
    refine ⟨fun W0 hE0 => ?_, fun W0 hE0 K hK => ?_⟩
    · have hA3 := hA2.ext hE0
      have g0 := cellG (cell_of_block hA3 0 (.int .i64 a) rfl)
      have g1 := cellG (cell_of_block hA3 1 (.int .i64 h) rfl)
      have g2 := cellG (cell_of_block hA3 2 (.int .i64 r) rfl)
      have g3 := cellG (cell_of_block hA3 3 (.int .u64 V) rfl)
      have g4 := cellG (cell_of_block hA3 4 (.int .i64 lo) rfl)
      have g5 := cellG (cell_of_block hA3 5 (.int .i64 hi) rfl)
      have g6 := cellG (cell_of_block hA3 6 (.int .i64 k) rfl)
      have g7 := cellG (cell_of_block hA3 7 (.int .i64 t) rfl)
      have g8 := cellG (cell_of_block hA3 8 (.int .i64 c) rfl)
      have g9 := cellG (cell_of_block hA3 9 (.int .i64 s) rfl)
      have g10 := cellG (cell_of_block hA3 10 (.int .i64 u) rfl)
      have g11 := cellG (cell_of_block hA3 11 (.int .i64 l) rfl)
      clear hA3
      simp only [List.take_succ_cons, List.take_zero]
      repeat (go_big_quiet_step ((go_at_call 60; exact Calls.regrown_of (reply_any _ _ _ _ _ _ _ _ _ _ _))))
      refine wpQuiet_nil ?_
      rfl
    · have hS3 := hS2.ext hE0
      have hg3 := grown_ext hg2 hE0
      have s0 := cell_of_block hS3 0 (.int .i64 0) rfl
      have s1 := cell_of_block hS3 1 (.int .i64 0) rfl
      have s2 := cell_of_block hS3 2 (.int .i64 0) rfl
      have s3 := cell_of_block hS3 3 (.int .u64 0) rfl
      have s4 := cell_of_block hS3 4 (.int .i64 0) rfl
      have s5 := cell_of_block hS3 5 (.int .i64 0) rfl
      have s6 := cell_of_block hS3 6 (.int .i64 0) rfl
      have s7 := cell_of_block hS3 7 (.int .i64 0) rfl
      have s8 := cell_of_block hS3 8 (.int .i64 0) rfl
      have s9 := cell_of_block hS3 9 (.int .i64 0) rfl
      have sf := free_of_block hS3
      simp [execOp, go_sem, storeUpon, s0, s1, s2, s3, s4, s5, s6, s7, s8, s9, sf]
      refine hK _ _ ?_
      have hb3 := RepBlk.stored hS3 a h r V lo hi k t c s
      have hg4 := grown_new (grown_new (grown_new (grown_new (grown_new (grown_new (grown_new (grown_new (grown_new (grown_new hg3 0 (.int .i64 a)) 1 (.int .i64 h)) 2 (.int .i64 r)) 3 (.int .u64 V)) 4 (.int .i64 lo)) 5 (.int .i64 hi)) 6 (.int .i64 k)) 7 (.int .i64 t)) 8 (.int .i64 c)) 9 (.int .i64 s)
      clear s0 s1 s2 s3 s4 s5 s6 s7 s8 s9 sf hg3 hS3
      simp only [List.drop_succ_cons, List.drop_zero, Act.put]
      go_wp2
      refine bodyPost_ret (res_made2 _ w.heap.size ⟨a, h, r, V, lo, hi, k, t, c, s⟩ _ _ (by rfl) (by rfl) hb3) rfl ⟨by rw [HV.out]; simp [hok], hg4⟩

end Go.Proofs.YtdmfdimhjemngaaGreatDoor

/-
  Reading a reply: the program.
-/
namespace Go.Proofs.YtdmfdimhjemngaaGreatDoor
open Go.RowKit Go.Sort Go.Shelf
set_option linter.unusedSimpArgs false
set_option linter.unusedVariables false
set_option maxRecDepth 100000

theorem res_get2 (W : World) (b : Nat) (q : Rep) (k : Int) (tmps : Array Value) (h2 : tmps[8]?.getD undef = .pointer (some ⟨b, 0, none⟩)) (h3 : tmps[9]?.getD undef = .int .i64 k) (hb : RepBlk W b q) :
    (results Tryz.f53 tmps).run Tryz.prog W = .ok (.tuple #[repV q, .int .i64 k]) W := by
  have c0 := cell_of_block hb 0 (.int .i64 q.a) rfl
  have c1 := cell_of_block hb 1 (.int .i64 q.h) rfl
  have c2 := cell_of_block hb 2 (.int .i64 q.r) rfl
  have c3 := cell_of_block hb 3 (.int .u64 q.n) rfl
  have c4 := cell_of_block hb 4 (.int .i64 q.lo) rfl
  have c5 := cell_of_block hb 5 (.int .i64 q.hi) rfl
  have c6 := cell_of_block hb 6 (.int .i64 q.k) rfl
  have c7 := cell_of_block hb 7 (.int .i64 q.t) rfl
  have c8 := cell_of_block hb 8 (.int .i64 q.c) rfl
  have c9 := cell_of_block hb 9 (.int .i64 q.s) rfl
  simp [results, Tryz.results53, go_sem, h2, h3, c0, c1, c2, c3, c4, c5, c6, c7, c8, c9, repV]

/-- Where a reply's eleven integers are read to. -/
def FldBlk2 (W : World) (F A : Nat) : Prop := W.heap[F]? = some (.cells #[.pointer (some ⟨A, 0, none⟩), .pointer (some ⟨A, 1, none⟩), .pointer (some ⟨A, 2, none⟩), .pointer (some ⟨A, 10, none⟩), .pointer (some ⟨A, 11, none⟩), .pointer (some ⟨A, 4, none⟩), .pointer (some ⟨A, 5, none⟩), .pointer (some ⟨A, 6, none⟩), .pointer (some ⟨A, 7, none⟩), .pointer (some ⟨A, 8, none⟩), .pointer (some ⟨A, 9, none⟩)] 96 (0, 0))
theorem FldBlk2.ext {W W' : World} {F A : Nat} (hb : FldBlk2 W F A) (he : Ext W W') : FldBlk2 W' F A := (he.block F (Array.getElem?_eq_some_iff.1 hb).1).trans hb
theorem RepBlk.other {W : World} {b : Nat} {q : Rep} (hb : RepBlk W b q) (c j : Nat) (v : Value) (hne : b ≠ c) : RepBlk (W.setCell ⟨c, j, none⟩ v) b q := (heap_setCell_other W ⟨c, j, none⟩ b v hne).trans hb

def GetPost2 (base : Nat) (w w' : World) (e : Ending) (o : Option Rep) : Prop := e = .returned (.tuple #[repV (o.getD rep0), .int .i64 (if o.isSome then 0 else 7)]) ∧ Below base w w'
theorem getPost2_no {base : Nat} {w w' : World} {e : Ending} {o : Option Rep} (ho : o = none) (h : e = .returned (.tuple #[repV rep0, .int .i64 7])) (hE : Below base w w') : GetPost2 base w w' e o := by
  subst ho; exact ⟨h, hE⟩
theorem getPost2_yes {base : Nat} {w w' : World} {e : Ending} {o : Option Rep} {q : Rep} (ho : o = some q) (he : e = .returned (.tuple #[repV q, .int .i64 0])) (hE : Below base w w') : GetPost2 base w w' e o := by
  subst ho; exact ⟨he, hE⟩

set_option maxHeartbeats 2000000 in
theorem get2_any (base F A : Nat) (a1 : Option Addr) (n1 c1 : Nat) (xs : List Int) (w : World) (h1 : Sl .u8 w a1 n1 c1 xs) (hn1 : n1 ≤ 1000000000) (hF : FldBlk2 w F A) (hA : AnsBlk w A 0 0 0 0 0 0 0 0 0 0 0 0) (hFA : F ≠ A)
    (bF : base ≤ F) (bA : base ≤ A) :
    Calls Tryz.prog 53 #[.int .u8 2, .slice a1 n1 c1, .slice (some ⟨F, 0, none⟩) 11 11, .func (.func 54) #[.pointer (some ⟨A, 0, none⟩)] #[]] w fun e w' => GetPost2 base w w' e (lrep xs) := by
  have b1 := h1.bd
  have e1 := h1.hlen
  have lF := lt_of_block hF
  have lA := lt_of_block hA
  have bw : base ≤ w.heap.size := by omega
  rcases xs with _ | ⟨c, t⟩
  · obtain rfl : n1 = 0 := by simpa using e1.symm
    clear e1
    go_enter Tryz.func53, Tryz.ntmps53
    go_wp2
    refine bodyPost_ret (res_get2 _ w.heap.size rep0 7 _ (by rfl) (by rfl) ?_) rfl ?_
    · exact (Below.heap_alloc _ _ _ (by simp)).trans (World.alloc_heap_new w _)
    · exact getPost2_no rfl rfl (((Below.refl base w).alloc bw _).alloc (by simp; omega) _)
  · have hp : 0 < n1 := by rw [← e1]; simp
    obtain ⟨x1, o1, rfl, hc⟩ := h1.at hp
    have hx0 := (hc 0 hp)
    rw [nth_cons, Nat.add_zero] at hx0
    clear hc
    have hxl : x1 < w.heap.size := lt_of_cell hx0
    have hxl2 : x1 < w.heap.size + 1 := by omega
    have hm1 : ((n1 : Int) == 0) = false := by simp; omega
    have hE00 : Ext w ((w.alloc (.cells #[.int .i64 0, .int .i64 0, .int .i64 0, .int .u64 0, .int .i64 0, .int .i64 0, .int .i64 0, .int .i64 0, .int .i64 0, .int .i64 0] 60)).alloc (.cells #[.int .i64 0, .int .i64 0, .int .i64 0, .int .u64 0, .int .i64 0, .int .i64 0, .int .i64 0, .int .i64 0, .int .i64 0, .int .i64 0] 60)) := ((Ext.refl w).alloc _).alloc _
    by_cases hk : c = 2
    · subst hk
      have ht := h1.from (m := 1) hp
      rw [List.drop_succ_cons, List.drop_zero] at ht
      have hsl : ∀ w, (Instr.slice 30 (.slice (some ⟨x1, o1, none⟩) n1 c1) (some (.int .i64 1)) none none).run Tryz.prog w = .ok (.slice (subA (some ⟨x1, o1, none⟩) c1 1) (n1 - 1) (c1 - 1)) w := run_from (P := Tryz.prog) (T := 30) (by kernel_rfl) (fun _ => by kernel_rfl) (some ⟨x1, o1, none⟩) n1 c1 1 hp
      have hl0 : lrep (2 :: t) = (match lget t with | some l => if l.length = 11 then repOf l else none | none => none) := by
        unfold lrep lints
        simp only [if_true]
        rcases lget t with _ | l
        · rfl
        · by_cases h5 : l.length = 11
          · simp [h5]
          · simp [h5]
      have HL := Lib.hid hl0
      have E1 := Lib.hid e1
      clear hl0 e1
      rcases hr : lget t with _ | l
      · have HR := Lib.hid hr
        clear hr
        go_enter Tryz.func53, Tryz.ntmps53
        go_wp2_with fail
        refine (get_any _ _ _ t _ (ht.ext hE00) (by omega)).mono ?_
        intro e w2 hp2
        rw [HR.out] at hp2
        obtain ⟨rfl, hE2⟩ := hp2
        have hS : RepBlk w2 w.heap.size rep0 := (hE2.block _ (by simp; omega)).trans ((Below.heap_alloc _ _ _ (by simp)).trans (World.alloc_heap_new w _))
        have hD : RepBlk w2 (w.heap.size + 1) rep0 := (hE2.block _ (by simp)).trans (alloc_at (by simp))
        have s0 := cell_of_block hS 0 (.int .i64 0) rfl
        have s1 := cell_of_block hS 1 (.int .i64 0) rfl
        have s2 := cell_of_block hS 2 (.int .i64 0) rfl
        have s3 := cell_of_block hS 3 (.int .u64 0) rfl
        have s4 := cell_of_block hS 4 (.int .i64 0) rfl
        have s5 := cell_of_block hS 5 (.int .i64 0) rfl
        have s6 := cell_of_block hS 6 (.int .i64 0) rfl
        have s7 := cell_of_block hS 7 (.int .i64 0) rfl
        have s8 := cell_of_block hS 8 (.int .i64 0) rfl
        have s9 := cell_of_block hS 9 (.int .i64 0) rfl
        have sf := free_of_block hS
        have d0 := cell_of_block hD 0 (.int .i64 0) rfl
        have d1 := cell_of_block hD 1 (.int .i64 0) rfl
        have d2 := cell_of_block hD 2 (.int .i64 0) rfl
        have d3 := cell_of_block hD 3 (.int .u64 0) rfl
        have d4 := cell_of_block hD 4 (.int .i64 0) rfl
        have d5 := cell_of_block hD 5 (.int .i64 0) rfl
        have d6 := cell_of_block hD 6 (.int .i64 0) rfl
        have d7 := cell_of_block hD 7 (.int .i64 0) rfl
        have d8 := cell_of_block hD 8 (.int .i64 0) rfl
        have d9 := cell_of_block hD 9 (.int .i64 0) rfl
        have hz := lt_of_block hS
        have hX : Below base w w2 := Below.mono (hE00.trans hE2) bw
        go_wp2
        refine bodyPost_ret (res_get2 _ w.heap.size rep0 7 _ (by rfl) (by rfl) (RepBlk.stored hS 0 0 0 0 0 0 0 0 0 0)) rfl ?_
        exact getPost2_no (by rw [HL.out, HR.out]) rfl (by repeat' (first | with_reducible exact hX | with_reducible refine Below.setCell ?_ bw _))
      · by_cases h5 : l.length = 11
        · match l, h5 with
          | [y0, y1, y2, y3, y4, y5, y6, y7, y8, y9, y10], _ =>
          have HR := Lib.hid hr
          clear hr
          go_enter Tryz.func53, Tryz.ntmps53
          go_wp2_with fail
          refine (get_any _ _ _ t _ (ht.ext hE00) (by omega)).mono ?_
          intro e w2 hp2
          rw [HR.out] at hp2
          obtain ⟨a2, c2, rfl, ho2, hE2⟩ := hp2
          have hs2 := ho2.sl (lget_wf (i := 0) (j := t.length) ht.wf (by simpa using HR.out))
          obtain ⟨x2, o2, hx2, hcl⟩ := hs2.at (by simp)
          have hge := ho2.lt x2 (by rw [hx2]; rfl)
          subst hx2
          have f0 := hcl 0 (by simp)
          have f1 := hcl 1 (by simp)
          have f2 := hcl 2 (by simp)
          have f3 := hcl 3 (by simp)
          have f4 := hcl 4 (by simp)
          have f5 := hcl 5 (by simp)
          have f6 := hcl 6 (by simp)
          have f7 := hcl 7 (by simp)
          have f8 := hcl 8 (by simp)
          have f9 := hcl 9 (by simp)
          have f10 := hcl 10 (by simp)
          simp only [nth, List.getD_cons_zero, List.getD_cons_succ, Nat.add_zero] at f0 f1 f2 f3 f4 f5 f6 f7 f8 f9 f10
          simp only [World.size_alloc] at hge
          simp only [List.length_cons, List.length_nil, Nat.zero_add]
          clear hcl ho2 hs2
          have hS : RepBlk w2 w.heap.size rep0 := (hE2.block _ (by simp; omega)).trans ((Below.heap_alloc _ _ _ (by simp)).trans (World.alloc_heap_new w _))
          have hD : RepBlk w2 (w.heap.size + 1) rep0 := (hE2.block _ (by simp)).trans (alloc_at (by simp))
          have s0 := cell_of_block hS 0 (.int .i64 0) rfl
          have s1 := cell_of_block hS 1 (.int .i64 0) rfl
          have s2 := cell_of_block hS 2 (.int .i64 0) rfl
          have s3 := cell_of_block hS 3 (.int .u64 0) rfl
          have s4 := cell_of_block hS 4 (.int .i64 0) rfl
          have s5 := cell_of_block hS 5 (.int .i64 0) rfl
          have s6 := cell_of_block hS 6 (.int .i64 0) rfl
          have s7 := cell_of_block hS 7 (.int .i64 0) rfl
          have s8 := cell_of_block hS 8 (.int .i64 0) rfl
          have s9 := cell_of_block hS 9 (.int .i64 0) rfl
          have sf := free_of_block hS
          have d0 := cell_of_block hD 0 (.int .i64 0) rfl
          have d1 := cell_of_block hD 1 (.int .i64 0) rfl
          have d2 := cell_of_block hD 2 (.int .i64 0) rfl
          have d3 := cell_of_block hD 3 (.int .u64 0) rfl
          have d4 := cell_of_block hD 4 (.int .i64 0) rfl
          have d5 := cell_of_block hD 5 (.int .i64 0) rfl
          have d6 := cell_of_block hD 6 (.int .i64 0) rfl
          have d7 := cell_of_block hD 7 (.int .i64 0) rfl
          have d8 := cell_of_block hD 8 (.int .i64 0) rfl
          have d9 := cell_of_block hD 9 (.int .i64 0) rfl
          have hz := lt_of_block hS
          have hX : Below base w w2 := Below.mono (hE00.trans hE2) bw
          have hEw := hE00.trans hE2
          have hF2 := hF.ext hEw
          have hA2 := hA.ext hEw
          clear hE2 hE00
          have p0 := cell_of_block hF2 0 (.pointer (some ⟨A, 0, none⟩)) rfl
          have p1 := cell_of_block hF2 1 (.pointer (some ⟨A, 1, none⟩)) rfl
          have p2 := cell_of_block hF2 2 (.pointer (some ⟨A, 2, none⟩)) rfl
          have p3 := cell_of_block hF2 3 (.pointer (some ⟨A, 10, none⟩)) rfl
          have p4 := cell_of_block hF2 4 (.pointer (some ⟨A, 11, none⟩)) rfl
          have p5 := cell_of_block hF2 5 (.pointer (some ⟨A, 4, none⟩)) rfl
          have p6 := cell_of_block hF2 6 (.pointer (some ⟨A, 5, none⟩)) rfl
          have p7 := cell_of_block hF2 7 (.pointer (some ⟨A, 6, none⟩)) rfl
          have p8 := cell_of_block hF2 8 (.pointer (some ⟨A, 7, none⟩)) rfl
          have p9 := cell_of_block hF2 9 (.pointer (some ⟨A, 8, none⟩)) rfl
          have p10 := cell_of_block hF2 10 (.pointer (some ⟨A, 9, none⟩)) rfl
          have r0 := cell_of_block hA2 0 (.int .i64 0) rfl
          have r1 := cell_of_block hA2 1 (.int .i64 0) rfl
          have r2 := cell_of_block hA2 2 (.int .i64 0) rfl
          have r3 := cell_of_block hA2 3 (.int .u64 0) rfl
          have r4 := cell_of_block hA2 4 (.int .i64 0) rfl
          have r5 := cell_of_block hA2 5 (.int .i64 0) rfl
          have r6 := cell_of_block hA2 6 (.int .i64 0) rfl
          have r7 := cell_of_block hA2 7 (.int .i64 0) rfl
          have r8 := cell_of_block hA2 8 (.int .i64 0) rfl
          have r9 := cell_of_block hA2 9 (.int .i64 0) rfl
          have r10 := cell_of_block hA2 10 (.int .i64 0) rfl
          have r11 := cell_of_block hA2 11 (.int .i64 0) rfl
          have rf := free_of_block hA2
          have q1 : A ≠ x2 := by omega
          have q3 : x2 ≠ A := by omega
          have q6 : A ≠ F := fun h => hFA h.symm
          go_wp2_with fail
          refine wp_loop_rounds 12 ?_
          rw [rounds_succ]
          go_wp2_with fail
          rw [rounds_succ]
          go_wp2_with fail
          rw [rounds_succ]
          go_wp2_with fail
          rw [rounds_succ]
          go_wp2_with fail
          rw [rounds_succ]
          go_wp2_with fail
          rw [rounds_succ]
          go_wp2_with fail
          rw [rounds_succ]
          go_wp2_with fail
          rw [rounds_succ]
          go_wp2_with fail
          rw [rounds_succ]
          go_wp2_with fail
          rw [rounds_succ]
          go_wp2_with fail
          rw [rounds_succ]
          go_wp2_with fail
          rw [rounds_succ]
          go_wp2_with fail
          have g0 : (w2.setCell ⟨A, 0, none⟩ (.int .i64 y0)).heap[A]? = some (.cells #[.int .i64 y0, .int .i64 0, .int .i64 0, .int .u64 0, .int .i64 0, .int .i64 0, .int .i64 0, .int .i64 0, .int .i64 0, .int .i64 0, .int .i64 0, .int .i64 0] 92 (0, 0)) := heap_setCell_same _ A 0 _ _ _ hA2
          have g1 : ((w2.setCell ⟨A, 0, none⟩ (.int .i64 y0)).setCell ⟨A, 1, none⟩ (.int .i64 y1)).heap[A]? = some (.cells #[.int .i64 y0, .int .i64 y1, .int .i64 0, .int .u64 0, .int .i64 0, .int .i64 0, .int .i64 0, .int .i64 0, .int .i64 0, .int .i64 0, .int .i64 0, .int .i64 0] 92 (0, 0)) := heap_setCell_same _ A 1 _ _ _ g0
          have g2 : (((w2.setCell ⟨A, 0, none⟩ (.int .i64 y0)).setCell ⟨A, 1, none⟩ (.int .i64 y1)).setCell ⟨A, 2, none⟩ (.int .i64 y2)).heap[A]? = some (.cells #[.int .i64 y0, .int .i64 y1, .int .i64 y2, .int .u64 0, .int .i64 0, .int .i64 0, .int .i64 0, .int .i64 0, .int .i64 0, .int .i64 0, .int .i64 0, .int .i64 0] 92 (0, 0)) := heap_setCell_same _ A 2 _ _ _ g1
          have g3 : ((((w2.setCell ⟨A, 0, none⟩ (.int .i64 y0)).setCell ⟨A, 1, none⟩ (.int .i64 y1)).setCell ⟨A, 2, none⟩ (.int .i64 y2)).setCell ⟨A, 10, none⟩ (.int .i64 y3)).heap[A]? = some (.cells #[.int .i64 y0, .int .i64 y1, .int .i64 y2, .int .u64 0, .int .i64 0, .int .i64 0, .int .i64 0, .int .i64 0, .int .i64 0, .int .i64 0, .int .i64 y3, .int .i64 0] 92 (0, 0)) := heap_setCell_same _ A 10 _ _ _ g2
          have g4 : (((((w2.setCell ⟨A, 0, none⟩ (.int .i64 y0)).setCell ⟨A, 1, none⟩ (.int .i64 y1)).setCell ⟨A, 2, none⟩ (.int .i64 y2)).setCell ⟨A, 10, none⟩ (.int .i64 y3)).setCell ⟨A, 11, none⟩ (.int .i64 y4)).heap[A]? = some (.cells #[.int .i64 y0, .int .i64 y1, .int .i64 y2, .int .u64 0, .int .i64 0, .int .i64 0, .int .i64 0, .int .i64 0, .int .i64 0, .int .i64 0, .int .i64 y3, .int .i64 y4] 92 (0, 0)) := heap_setCell_same _ A 11 _ _ _ g3
          have g5 : ((((((w2.setCell ⟨A, 0, none⟩ (.int .i64 y0)).setCell ⟨A, 1, none⟩ (.int .i64 y1)).setCell ⟨A, 2, none⟩ (.int .i64 y2)).setCell ⟨A, 10, none⟩ (.int .i64 y3)).setCell ⟨A, 11, none⟩ (.int .i64 y4)).setCell ⟨A, 4, none⟩ (.int .i64 y5)).heap[A]? = some (.cells #[.int .i64 y0, .int .i64 y1, .int .i64 y2, .int .u64 0, .int .i64 y5, .int .i64 0, .int .i64 0, .int .i64 0, .int .i64 0, .int .i64 0, .int .i64 y3, .int .i64 y4] 92 (0, 0)) := heap_setCell_same _ A 4 _ _ _ g4
          have g6 : (((((((w2.setCell ⟨A, 0, none⟩ (.int .i64 y0)).setCell ⟨A, 1, none⟩ (.int .i64 y1)).setCell ⟨A, 2, none⟩ (.int .i64 y2)).setCell ⟨A, 10, none⟩ (.int .i64 y3)).setCell ⟨A, 11, none⟩ (.int .i64 y4)).setCell ⟨A, 4, none⟩ (.int .i64 y5)).setCell ⟨A, 5, none⟩ (.int .i64 y6)).heap[A]? = some (.cells #[.int .i64 y0, .int .i64 y1, .int .i64 y2, .int .u64 0, .int .i64 y5, .int .i64 y6, .int .i64 0, .int .i64 0, .int .i64 0, .int .i64 0, .int .i64 y3, .int .i64 y4] 92 (0, 0)) := heap_setCell_same _ A 5 _ _ _ g5
          have g7 : ((((((((w2.setCell ⟨A, 0, none⟩ (.int .i64 y0)).setCell ⟨A, 1, none⟩ (.int .i64 y1)).setCell ⟨A, 2, none⟩ (.int .i64 y2)).setCell ⟨A, 10, none⟩ (.int .i64 y3)).setCell ⟨A, 11, none⟩ (.int .i64 y4)).setCell ⟨A, 4, none⟩ (.int .i64 y5)).setCell ⟨A, 5, none⟩ (.int .i64 y6)).setCell ⟨A, 6, none⟩ (.int .i64 y7)).heap[A]? = some (.cells #[.int .i64 y0, .int .i64 y1, .int .i64 y2, .int .u64 0, .int .i64 y5, .int .i64 y6, .int .i64 y7, .int .i64 0, .int .i64 0, .int .i64 0, .int .i64 y3, .int .i64 y4] 92 (0, 0)) := heap_setCell_same _ A 6 _ _ _ g6
          have g8 : (((((((((w2.setCell ⟨A, 0, none⟩ (.int .i64 y0)).setCell ⟨A, 1, none⟩ (.int .i64 y1)).setCell ⟨A, 2, none⟩ (.int .i64 y2)).setCell ⟨A, 10, none⟩ (.int .i64 y3)).setCell ⟨A, 11, none⟩ (.int .i64 y4)).setCell ⟨A, 4, none⟩ (.int .i64 y5)).setCell ⟨A, 5, none⟩ (.int .i64 y6)).setCell ⟨A, 6, none⟩ (.int .i64 y7)).setCell ⟨A, 7, none⟩ (.int .i64 y8)).heap[A]? = some (.cells #[.int .i64 y0, .int .i64 y1, .int .i64 y2, .int .u64 0, .int .i64 y5, .int .i64 y6, .int .i64 y7, .int .i64 y8, .int .i64 0, .int .i64 0, .int .i64 y3, .int .i64 y4] 92 (0, 0)) := heap_setCell_same _ A 7 _ _ _ g7
          have g9 : ((((((((((w2.setCell ⟨A, 0, none⟩ (.int .i64 y0)).setCell ⟨A, 1, none⟩ (.int .i64 y1)).setCell ⟨A, 2, none⟩ (.int .i64 y2)).setCell ⟨A, 10, none⟩ (.int .i64 y3)).setCell ⟨A, 11, none⟩ (.int .i64 y4)).setCell ⟨A, 4, none⟩ (.int .i64 y5)).setCell ⟨A, 5, none⟩ (.int .i64 y6)).setCell ⟨A, 6, none⟩ (.int .i64 y7)).setCell ⟨A, 7, none⟩ (.int .i64 y8)).setCell ⟨A, 8, none⟩ (.int .i64 y9)).heap[A]? = some (.cells #[.int .i64 y0, .int .i64 y1, .int .i64 y2, .int .u64 0, .int .i64 y5, .int .i64 y6, .int .i64 y7, .int .i64 y8, .int .i64 y9, .int .i64 0, .int .i64 y3, .int .i64 y4] 92 (0, 0)) := heap_setCell_same _ A 8 _ _ _ g8
          have g10 : (((((((((((w2.setCell ⟨A, 0, none⟩ (.int .i64 y0)).setCell ⟨A, 1, none⟩ (.int .i64 y1)).setCell ⟨A, 2, none⟩ (.int .i64 y2)).setCell ⟨A, 10, none⟩ (.int .i64 y3)).setCell ⟨A, 11, none⟩ (.int .i64 y4)).setCell ⟨A, 4, none⟩ (.int .i64 y5)).setCell ⟨A, 5, none⟩ (.int .i64 y6)).setCell ⟨A, 6, none⟩ (.int .i64 y7)).setCell ⟨A, 7, none⟩ (.int .i64 y8)).setCell ⟨A, 8, none⟩ (.int .i64 y9)).setCell ⟨A, 9, none⟩ (.int .i64 y10)).heap[A]? = some (.cells #[.int .i64 y0, .int .i64 y1, .int .i64 y2, .int .u64 0, .int .i64 y5, .int .i64 y6, .int .i64 y7, .int .i64 y8, .int .i64 y9, .int .i64 y10, .int .i64 y3, .int .i64 y4] 92 (0, 0)) := heap_setCell_same _ A 9 _ _ _ g9
          have hA5 : AnsBlk (((((((((((w2.setCell ⟨A, 0, none⟩ (.int .i64 y0)).setCell ⟨A, 1, none⟩ (.int .i64 y1)).setCell ⟨A, 2, none⟩ (.int .i64 y2)).setCell ⟨A, 10, none⟩ (.int .i64 y3)).setCell ⟨A, 11, none⟩ (.int .i64 y4)).setCell ⟨A, 4, none⟩ (.int .i64 y5)).setCell ⟨A, 5, none⟩ (.int .i64 y6)).setCell ⟨A, 6, none⟩ (.int .i64 y7)).setCell ⟨A, 7, none⟩ (.int .i64 y8)).setCell ⟨A, 8, none⟩ (.int .i64 y9)).setCell ⟨A, 9, none⟩ (.int .i64 y10)) A y0 y1 y2 0 y5 y6 y7 y8 y9 y10 y3 y4 := g10
          have hS5 : RepBlk (((((((((((w2.setCell ⟨A, 0, none⟩ (.int .i64 y0)).setCell ⟨A, 1, none⟩ (.int .i64 y1)).setCell ⟨A, 2, none⟩ (.int .i64 y2)).setCell ⟨A, 10, none⟩ (.int .i64 y3)).setCell ⟨A, 11, none⟩ (.int .i64 y4)).setCell ⟨A, 4, none⟩ (.int .i64 y5)).setCell ⟨A, 5, none⟩ (.int .i64 y6)).setCell ⟨A, 6, none⟩ (.int .i64 y7)).setCell ⟨A, 7, none⟩ (.int .i64 y8)).setCell ⟨A, 8, none⟩ (.int .i64 y9)).setCell ⟨A, 9, none⟩ (.int .i64 y10)) w.heap.size rep0 := (((((((((((hS.other A 0 _ (by omega)).other A 1 _ (by omega)).other A 2 _ (by omega)).other A 10 _ (by omega)).other A 11 _ (by omega)).other A 4 _ (by omega)).other A 5 _ (by omega)).other A 6 _ (by omega)).other A 7 _ (by omega)).other A 8 _ (by omega)).other A 9 _ (by omega))
          have hD5 : RepBlk (((((((((((w2.setCell ⟨A, 0, none⟩ (.int .i64 y0)).setCell ⟨A, 1, none⟩ (.int .i64 y1)).setCell ⟨A, 2, none⟩ (.int .i64 y2)).setCell ⟨A, 10, none⟩ (.int .i64 y3)).setCell ⟨A, 11, none⟩ (.int .i64 y4)).setCell ⟨A, 4, none⟩ (.int .i64 y5)).setCell ⟨A, 5, none⟩ (.int .i64 y6)).setCell ⟨A, 6, none⟩ (.int .i64 y7)).setCell ⟨A, 7, none⟩ (.int .i64 y8)).setCell ⟨A, 8, none⟩ (.int .i64 y9)).setCell ⟨A, 9, none⟩ (.int .i64 y10)) (w.heap.size + 1) rep0 := (((((((((((hD.other A 0 _ (by omega)).other A 1 _ (by omega)).other A 2 _ (by omega)).other A 10 _ (by omega)).other A 11 _ (by omega)).other A 4 _ (by omega)).other A 5 _ (by omega)).other A 6 _ (by omega)).other A 7 _ (by omega)).other A 8 _ (by omega)).other A 9 _ (by omega))
          have hX5 : Below base w (((((((((((w2.setCell ⟨A, 0, none⟩ (.int .i64 y0)).setCell ⟨A, 1, none⟩ (.int .i64 y1)).setCell ⟨A, 2, none⟩ (.int .i64 y2)).setCell ⟨A, 10, none⟩ (.int .i64 y3)).setCell ⟨A, 11, none⟩ (.int .i64 y4)).setCell ⟨A, 4, none⟩ (.int .i64 y5)).setCell ⟨A, 5, none⟩ (.int .i64 y6)).setCell ⟨A, 6, none⟩ (.int .i64 y7)).setCell ⟨A, 7, none⟩ (.int .i64 y8)).setCell ⟨A, 8, none⟩ (.int .i64 y9)).setCell ⟨A, 9, none⟩ (.int .i64 y10)) := (((((((((((hX.setCell (p := ⟨A, 0, none⟩) bA _).setCell (p := ⟨A, 1, none⟩) bA _).setCell (p := ⟨A, 2, none⟩) bA _).setCell (p := ⟨A, 10, none⟩) bA _).setCell (p := ⟨A, 11, none⟩) bA _).setCell (p := ⟨A, 4, none⟩) bA _).setCell (p := ⟨A, 5, none⟩) bA _).setCell (p := ⟨A, 6, none⟩) bA _).setCell (p := ⟨A, 7, none⟩) bA _).setCell (p := ⟨A, 8, none⟩) bA _).setCell (p := ⟨A, 9, none⟩) bA _)
          generalize (((((((((((w2.setCell ⟨A, 0, none⟩ (.int .i64 y0)).setCell ⟨A, 1, none⟩ (.int .i64 y1)).setCell ⟨A, 2, none⟩ (.int .i64 y2)).setCell ⟨A, 10, none⟩ (.int .i64 y3)).setCell ⟨A, 11, none⟩ (.int .i64 y4)).setCell ⟨A, 4, none⟩ (.int .i64 y5)).setCell ⟨A, 5, none⟩ (.int .i64 y6)).setCell ⟨A, 6, none⟩ (.int .i64 y7)).setCell ⟨A, 7, none⟩ (.int .i64 y8)).setCell ⟨A, 8, none⟩ (.int .i64 y9)).setCell ⟨A, 9, none⟩ (.int .i64 y10)) = W5 at *
          clear g0 g1 g2 g3 g4 g5 g6 g7 g8 g9 g10 f0 f1 f2 f3 f4 f5 f6 f7 f8 f9 f10 s0 s1 s2 s3 s4 s5 s6 s7 s8 s9 d0 d1 d2 d3 d4 d5 d6 d7 d8 d9 p0 p1 p2 p3 p4 p5 p6 p7 p8 p9 p10 r0 r1 r2 r3 r4 r5 r6 r7 r8 r9 r10 r11 sf rf hF2 hA2 hS hD hX hEw
          refine (made2_any A y0 y1 y2 0 y5 y6 y7 y8 y9 y10 y3 y4 _ hA5).mono ?_
          rintro e w4 ⟨rfl, hg⟩
          have lS := lt_of_block hS5
          have lD := lt_of_block hD5
          have hS6 : RepBlk w4 w.heap.size rep0 := (hg.block _ lS (by intro h; cases h; omega)).trans hS5
          have hD6 : RepBlk w4 (w.heap.size + 1) rep0 := (hg.block _ lD (by intro h; cases h; omega)).trans hD5
          have hX6 : Below base w w4 := Below.trans hX5 (below_of_grown hg bA (by omega))
          clear hA5 hS5 hD5 hX5 hg
          simp only [repV]
          go_upto_region 13 with fail
          have hE6 : Ext w4 (w4.alloc (.cells #[.int .i64 y0, .int .i64 y1, .int .i64 y2, .int .u64 (wholeV y3 y4), .int .i64 y5, .int .i64 y6, .int .i64 y7, .int .i64 y8, .int .i64 y9, .int .i64 y10] 60)) := (Ext.refl w4).alloc _
          have hS7 := hS6.ext hE6
          have hD7 := hD6.ext hE6
          have hY7 : RepBlk (w4.alloc (.cells #[.int .i64 y0, .int .i64 y1, .int .i64 y2, .int .u64 (wholeV y3 y4), .int .i64 y5, .int .i64 y6, .int .i64 y7, .int .i64 y8, .int .i64 y9, .int .i64 y10] 60)) w4.heap.size ⟨y0, y1, y2, wholeV y3 y4, y5, y6, y7, y8, y9, y10⟩ := World.alloc_heap_new w4 _
          have hbz : base ≤ w4.heap.size := by have := lt_of_block hS6; omega
          have hX7 : Below base w (w4.alloc (.cells #[.int .i64 y0, .int .i64 y1, .int .i64 y2, .int .u64 (wholeV y3 y4), .int .i64 y5, .int .i64 y6, .int .i64 y7, .int .i64 y8, .int .i64 y9, .int .i64 y10] 60)) := hX6.alloc hbz _
          have hne : w4.heap.size ≠ w.heap.size := by have := lt_of_block hS6; omega
          have hne' : w.heap.size ≠ w4.heap.size := fun h => hne h.symm
          generalize w4.alloc (.cells #[.int .i64 y0, .int .i64 y1, .int .i64 y2, .int .u64 (wholeV y3 y4), .int .i64 y5, .int .i64 y6, .int .i64 y7, .int .i64 y8, .int .i64 y9, .int .i64 y10] 60) = W6 at *
          generalize w4.heap.size = Y at *
          clear hE6 hS6 hD6 hX6 hbz
          have l1 := lt_of_block hS7
          have l2 := lt_of_block hD7
          have l3 := lt_of_block hY7
          have s0 := cell_of_block hS7 0 (.int .i64 0) rfl
          have s1 := cell_of_block hS7 1 (.int .i64 0) rfl
          have s2 := cell_of_block hS7 2 (.int .i64 0) rfl
          have s3 := cell_of_block hS7 3 (.int .u64 0) rfl
          have s4 := cell_of_block hS7 4 (.int .i64 0) rfl
          have s5 := cell_of_block hS7 5 (.int .i64 0) rfl
          have s6 := cell_of_block hS7 6 (.int .i64 0) rfl
          have s7 := cell_of_block hS7 7 (.int .i64 0) rfl
          have s8 := cell_of_block hS7 8 (.int .i64 0) rfl
          have s9 := cell_of_block hS7 9 (.int .i64 0) rfl
          have sf := free_of_block hS7
          rcases hq : (halfB y3 && halfB y4 && repB y0 y1 y2 y5 y6 y7 y8 y9 y10) with _ | _
          · have HQ := Lib.hid hq
            clear hq hY7
            have d0 := cell_of_block hD7 0 (.int .i64 0) rfl
            have d1 := cell_of_block hD7 1 (.int .i64 0) rfl
            have d2 := cell_of_block hD7 2 (.int .i64 0) rfl
            have d3 := cell_of_block hD7 3 (.int .u64 0) rfl
            have d4 := cell_of_block hD7 4 (.int .i64 0) rfl
            have d5 := cell_of_block hD7 5 (.int .i64 0) rfl
            have d6 := cell_of_block hD7 6 (.int .i64 0) rfl
            have d7 := cell_of_block hD7 7 (.int .i64 0) rfl
            have d8 := cell_of_block hD7 8 (.int .i64 0) rfl
            have d9 := cell_of_block hD7 9 (.int .i64 0) rfl
            go_wp2
            refine bodyPost_ret (res_get2 _ w.heap.size rep0 7 _ (by rfl) (by rfl) (RepBlk.stored hS7 0 0 0 0 0 0 0 0 0 0)) rfl ?_
            exact getPost2_no (by rw [HL.out, HR.out]; simp [repOf, HQ.out]) rfl (by repeat' (first | with_reducible exact hX7 | with_reducible refine Below.setCell ?_ bw _))
          · have hv : wholeV y3 y4 = y3 * 4294967296 + y4 := by
              simp only [Bool.and_eq_true] at hq
              exact wholeV_eq hq.1.1 hq.1.2
            have HQ := Lib.hid hq
            have HV := Lib.hid hv
            clear hq hv
            generalize wholeV y3 y4 = V at *
            have x0 := cell_of_block hY7 0 (.int .i64 y0) rfl
            have x1 := cell_of_block hY7 1 (.int .i64 y1) rfl
            have x2 := cell_of_block hY7 2 (.int .i64 y2) rfl
            have x3 := cell_of_block hY7 3 (.int .u64 V) rfl
            have x4 := cell_of_block hY7 4 (.int .i64 y5) rfl
            have x5 := cell_of_block hY7 5 (.int .i64 y6) rfl
            have x6 := cell_of_block hY7 6 (.int .i64 y7) rfl
            have x7 := cell_of_block hY7 7 (.int .i64 y8) rfl
            have x8 := cell_of_block hY7 8 (.int .i64 y9) rfl
            have x9 := cell_of_block hY7 9 (.int .i64 y10) rfl
            go_wp2
            refine bodyPost_ret (res_get2 _ w.heap.size ⟨y0, y1, y2, V, y5, y6, y7, y8, y9, y10⟩ 0 _ (by rfl) (by rfl) (RepBlk.stored hS7 y0 y1 y2 V y5 y6 y7 y8 y9 y10)) rfl ?_
            exact getPost2_yes (by rw [HL.out, HR.out]; simp [repOf, HQ.out, HV.out]) rfl (by repeat' (first | with_reducible exact hX7 | with_reducible refine Below.setCell ?_ bw _))
        · have h5' : ((l.length : Int) != 11) = true := by simp; omega
          have HR := Lib.hid hr
          have H5 := Lib.hid h5
          clear hr h5
          go_enter Tryz.func53, Tryz.ntmps53
          go_wp2_with fail
          refine (get_any _ _ _ t _ (ht.ext hE00) (by omega)).mono ?_
          intro e w2 hp2
          rw [HR.out] at hp2
          obtain ⟨a2, c2, rfl, ho2, hE2⟩ := hp2
          have hS : RepBlk w2 w.heap.size rep0 := (hE2.block _ (by simp; omega)).trans ((Below.heap_alloc _ _ _ (by simp)).trans (World.alloc_heap_new w _))
          have hD : RepBlk w2 (w.heap.size + 1) rep0 := (hE2.block _ (by simp)).trans (alloc_at (by simp))
          have s0 := cell_of_block hS 0 (.int .i64 0) rfl
          have s1 := cell_of_block hS 1 (.int .i64 0) rfl
          have s2 := cell_of_block hS 2 (.int .i64 0) rfl
          have s3 := cell_of_block hS 3 (.int .u64 0) rfl
          have s4 := cell_of_block hS 4 (.int .i64 0) rfl
          have s5 := cell_of_block hS 5 (.int .i64 0) rfl
          have s6 := cell_of_block hS 6 (.int .i64 0) rfl
          have s7 := cell_of_block hS 7 (.int .i64 0) rfl
          have s8 := cell_of_block hS 8 (.int .i64 0) rfl
          have s9 := cell_of_block hS 9 (.int .i64 0) rfl
          have sf := free_of_block hS
          have d0 := cell_of_block hD 0 (.int .i64 0) rfl
          have d1 := cell_of_block hD 1 (.int .i64 0) rfl
          have d2 := cell_of_block hD 2 (.int .i64 0) rfl
          have d3 := cell_of_block hD 3 (.int .u64 0) rfl
          have d4 := cell_of_block hD 4 (.int .i64 0) rfl
          have d5 := cell_of_block hD 5 (.int .i64 0) rfl
          have d6 := cell_of_block hD 6 (.int .i64 0) rfl
          have d7 := cell_of_block hD 7 (.int .i64 0) rfl
          have d8 := cell_of_block hD 8 (.int .i64 0) rfl
          have d9 := cell_of_block hD 9 (.int .i64 0) rfl
          have hz := lt_of_block hS
          have hX : Below base w w2 := Below.mono (hE00.trans hE2) bw
          go_wp2
          refine bodyPost_ret (res_get2 _ w.heap.size rep0 7 _ (by rfl) (by rfl) (RepBlk.stored hS 0 0 0 0 0 0 0 0 0 0)) rfl ?_
          exact getPost2_no (by rw [HL.out, HR.out]; exact if_neg H5.out) rfl (by repeat' (first | with_reducible exact hX | with_reducible refine Below.setCell ?_ bw _))
    · have hk' : (c != 2) = true := by simpa using hk
      have HL : Hid (lrep (c :: t) = none) := by unfold Hid lrep lints; simp only [if_neg hk]; rfl
      clear e1 hk
      go_enter Tryz.func53, Tryz.ntmps53
      go_wp2
      refine bodyPost_ret (res_get2 _ w.heap.size rep0 7 _ (by rfl) (by rfl) ?_) rfl ?_
      · exact (Below.heap_alloc _ _ _ (by simp)).trans (World.alloc_heap_new w _)
      · exact getPost2_no HL.out rfl (((Below.refl base w).alloc bw _).alloc (by simp; omega) _)

end Go.Proofs.YtdmfdimhjemngaaGreatDoor

/-
  GetReply of the program.
-/
namespace Go.Proofs.YtdmfdimhjemngaaGreatDoor
open Go.RowKit Go.Sort Go.Shelf
set_option linter.unusedSimpArgs false
set_option linter.unusedVariables false
set_option maxRecDepth 100000

theorem res_getRep (W : World) (b : Nat) (q : Rep) (k : Int) (tmps : Array Value) (h2 : tmps[2]?.getD undef = .pointer (some ⟨b, 0, none⟩)) (h3 : tmps[3]?.getD undef = .int .i64 k) (hb : RepBlk W b q) :
    (results Tryz.f33 tmps).run Tryz.prog W = .ok (.tuple #[repV q, .int .i64 k]) W := by
  have c0 := cell_of_block hb 0 (.int .i64 q.a) rfl
  have c1 := cell_of_block hb 1 (.int .i64 q.h) rfl
  have c2 := cell_of_block hb 2 (.int .i64 q.r) rfl
  have c3 := cell_of_block hb 3 (.int .u64 q.n) rfl
  have c4 := cell_of_block hb 4 (.int .i64 q.lo) rfl
  have c5 := cell_of_block hb 5 (.int .i64 q.hi) rfl
  have c6 := cell_of_block hb 6 (.int .i64 q.k) rfl
  have c7 := cell_of_block hb 7 (.int .i64 q.t) rfl
  have c8 := cell_of_block hb 8 (.int .i64 q.c) rfl
  have c9 := cell_of_block hb 9 (.int .i64 q.s) rfl
  simp [results, Tryz.results33, go_sem, h2, h3, c0, c1, c2, c3, c4, c5, c6, c7, c8, c9, repV]

set_option maxHeartbeats 1000000 in
theorem getReply_any (a1 : Option Addr) (n1 c1 : Nat) (xs : List Int) (w : World) (h1 : Sl .u8 w a1 n1 c1 xs) (hn1 : n1 ≤ 1000000000) :
    Calls Tryz.prog 33 #[.slice a1 n1 c1] w fun e w' => RepPost w w' e (lrep xs) := by
  go_enter Tryz.func33, Tryz.ntmps33
  go_wp2_with fail
  refine region_ext (by kernel_rfl) (by kernel_rfl) ?_
  repeat (go_big_quiet_step (fail))
  refine wpQuiet_nil ?_
  intro w1 hE1
  have hS1 : RepBlk w1 w.heap.size rep0 := (hE1.block _ (by simp; omega)).trans (alloc_keep (World.alloc_heap_new w _))
  have hA1 : AnsBlk w1 (w.heap.size + 1) 0 0 0 0 0 0 0 0 0 0 0 0 := (hE1.block _ (by simp)).trans (alloc_at (by simp))
  have hE01 : Ext w w1 := (((Ext.refl w).alloc _).alloc _).trans hE1
  clear hE1
  have lS := lt_of_block hS1
  have lA := lt_of_block hA1
  go_wp2_with fail
  refine region_mk 38 _ 7 #[.pointer none, .pointer none, .pointer none, .pointer none, .pointer none, .pointer none, .pointer none, .pointer none, .pointer none, .pointer none, .pointer none] 96 _ (by kernel_rfl) (by kernel_rfl) rfl rfl (fun _ => rfl) (fun a W => by simp [execOp, go_sem]) rfl (by kernel_rfl) ?_
  apply Exists.intro
  refine ⟨fun W0 hE0 => ?_, fun b W hE3 hb hblk => ?_⟩
  · simp only [List.take_succ_cons, List.take_zero]
    repeat (go_big_quiet_step (fail))
    refine wpQuiet_nil ?_
    rfl
  · simp only [List.drop_succ_cons, List.drop_zero, Act.put, List.setIfInBounds_toArray, List.set_cons_zero, List.set_cons_succ]
    have hz3 := lt_of_block hblk
    have k0 := cell_of_block hblk 0 (.pointer none) rfl
    have k1 := cell_of_block hblk 1 (.pointer none) rfl
    have k2 := cell_of_block hblk 2 (.pointer none) rfl
    have k3 := cell_of_block hblk 3 (.pointer none) rfl
    have k4 := cell_of_block hblk 4 (.pointer none) rfl
    have k5 := cell_of_block hblk 5 (.pointer none) rfl
    have k6 := cell_of_block hblk 6 (.pointer none) rfl
    have k7 := cell_of_block hblk 7 (.pointer none) rfl
    have k8 := cell_of_block hblk 8 (.pointer none) rfl
    have k9 := cell_of_block hblk 9 (.pointer none) rfl
    have k10 := cell_of_block hblk 10 (.pointer none) rfl
    have kf := free_of_block hblk
    go_wp2_with fail
    have g0 : (W.setCell ⟨b, 0, none⟩ (.pointer (some ⟨w.heap.size + 1, 0, none⟩))).heap[b]? = some (.cells #[.pointer (some ⟨w.heap.size + 1, 0, none⟩), .pointer none, .pointer none, .pointer none, .pointer none, .pointer none, .pointer none, .pointer none, .pointer none, .pointer none, .pointer none] 96 (0, 0)) := heap_setCell_same _ b 0 _ _ _ hblk
    have g1 : ((W.setCell ⟨b, 0, none⟩ (.pointer (some ⟨w.heap.size + 1, 0, none⟩))).setCell ⟨b, 1, none⟩ (.pointer (some ⟨w.heap.size + 1, 1, none⟩))).heap[b]? = some (.cells #[.pointer (some ⟨w.heap.size + 1, 0, none⟩), .pointer (some ⟨w.heap.size + 1, 1, none⟩), .pointer none, .pointer none, .pointer none, .pointer none, .pointer none, .pointer none, .pointer none, .pointer none, .pointer none] 96 (0, 0)) := heap_setCell_same _ b 1 _ _ _ g0
    have g2 : (((W.setCell ⟨b, 0, none⟩ (.pointer (some ⟨w.heap.size + 1, 0, none⟩))).setCell ⟨b, 1, none⟩ (.pointer (some ⟨w.heap.size + 1, 1, none⟩))).setCell ⟨b, 2, none⟩ (.pointer (some ⟨w.heap.size + 1, 2, none⟩))).heap[b]? = some (.cells #[.pointer (some ⟨w.heap.size + 1, 0, none⟩), .pointer (some ⟨w.heap.size + 1, 1, none⟩), .pointer (some ⟨w.heap.size + 1, 2, none⟩), .pointer none, .pointer none, .pointer none, .pointer none, .pointer none, .pointer none, .pointer none, .pointer none] 96 (0, 0)) := heap_setCell_same _ b 2 _ _ _ g1
    have g3 : ((((W.setCell ⟨b, 0, none⟩ (.pointer (some ⟨w.heap.size + 1, 0, none⟩))).setCell ⟨b, 1, none⟩ (.pointer (some ⟨w.heap.size + 1, 1, none⟩))).setCell ⟨b, 2, none⟩ (.pointer (some ⟨w.heap.size + 1, 2, none⟩))).setCell ⟨b, 3, none⟩ (.pointer (some ⟨w.heap.size + 1, 10, none⟩))).heap[b]? = some (.cells #[.pointer (some ⟨w.heap.size + 1, 0, none⟩), .pointer (some ⟨w.heap.size + 1, 1, none⟩), .pointer (some ⟨w.heap.size + 1, 2, none⟩), .pointer (some ⟨w.heap.size + 1, 10, none⟩), .pointer none, .pointer none, .pointer none, .pointer none, .pointer none, .pointer none, .pointer none] 96 (0, 0)) := heap_setCell_same _ b 3 _ _ _ g2
    have g4 : (((((W.setCell ⟨b, 0, none⟩ (.pointer (some ⟨w.heap.size + 1, 0, none⟩))).setCell ⟨b, 1, none⟩ (.pointer (some ⟨w.heap.size + 1, 1, none⟩))).setCell ⟨b, 2, none⟩ (.pointer (some ⟨w.heap.size + 1, 2, none⟩))).setCell ⟨b, 3, none⟩ (.pointer (some ⟨w.heap.size + 1, 10, none⟩))).setCell ⟨b, 4, none⟩ (.pointer (some ⟨w.heap.size + 1, 11, none⟩))).heap[b]? = some (.cells #[.pointer (some ⟨w.heap.size + 1, 0, none⟩), .pointer (some ⟨w.heap.size + 1, 1, none⟩), .pointer (some ⟨w.heap.size + 1, 2, none⟩), .pointer (some ⟨w.heap.size + 1, 10, none⟩), .pointer (some ⟨w.heap.size + 1, 11, none⟩), .pointer none, .pointer none, .pointer none, .pointer none, .pointer none, .pointer none] 96 (0, 0)) := heap_setCell_same _ b 4 _ _ _ g3
    have g5 : ((((((W.setCell ⟨b, 0, none⟩ (.pointer (some ⟨w.heap.size + 1, 0, none⟩))).setCell ⟨b, 1, none⟩ (.pointer (some ⟨w.heap.size + 1, 1, none⟩))).setCell ⟨b, 2, none⟩ (.pointer (some ⟨w.heap.size + 1, 2, none⟩))).setCell ⟨b, 3, none⟩ (.pointer (some ⟨w.heap.size + 1, 10, none⟩))).setCell ⟨b, 4, none⟩ (.pointer (some ⟨w.heap.size + 1, 11, none⟩))).setCell ⟨b, 5, none⟩ (.pointer (some ⟨w.heap.size + 1, 4, none⟩))).heap[b]? = some (.cells #[.pointer (some ⟨w.heap.size + 1, 0, none⟩), .pointer (some ⟨w.heap.size + 1, 1, none⟩), .pointer (some ⟨w.heap.size + 1, 2, none⟩), .pointer (some ⟨w.heap.size + 1, 10, none⟩), .pointer (some ⟨w.heap.size + 1, 11, none⟩), .pointer (some ⟨w.heap.size + 1, 4, none⟩), .pointer none, .pointer none, .pointer none, .pointer none, .pointer none] 96 (0, 0)) := heap_setCell_same _ b 5 _ _ _ g4
    have g6 : (((((((W.setCell ⟨b, 0, none⟩ (.pointer (some ⟨w.heap.size + 1, 0, none⟩))).setCell ⟨b, 1, none⟩ (.pointer (some ⟨w.heap.size + 1, 1, none⟩))).setCell ⟨b, 2, none⟩ (.pointer (some ⟨w.heap.size + 1, 2, none⟩))).setCell ⟨b, 3, none⟩ (.pointer (some ⟨w.heap.size + 1, 10, none⟩))).setCell ⟨b, 4, none⟩ (.pointer (some ⟨w.heap.size + 1, 11, none⟩))).setCell ⟨b, 5, none⟩ (.pointer (some ⟨w.heap.size + 1, 4, none⟩))).setCell ⟨b, 6, none⟩ (.pointer (some ⟨w.heap.size + 1, 5, none⟩))).heap[b]? = some (.cells #[.pointer (some ⟨w.heap.size + 1, 0, none⟩), .pointer (some ⟨w.heap.size + 1, 1, none⟩), .pointer (some ⟨w.heap.size + 1, 2, none⟩), .pointer (some ⟨w.heap.size + 1, 10, none⟩), .pointer (some ⟨w.heap.size + 1, 11, none⟩), .pointer (some ⟨w.heap.size + 1, 4, none⟩), .pointer (some ⟨w.heap.size + 1, 5, none⟩), .pointer none, .pointer none, .pointer none, .pointer none] 96 (0, 0)) := heap_setCell_same _ b 6 _ _ _ g5
    have g7 : ((((((((W.setCell ⟨b, 0, none⟩ (.pointer (some ⟨w.heap.size + 1, 0, none⟩))).setCell ⟨b, 1, none⟩ (.pointer (some ⟨w.heap.size + 1, 1, none⟩))).setCell ⟨b, 2, none⟩ (.pointer (some ⟨w.heap.size + 1, 2, none⟩))).setCell ⟨b, 3, none⟩ (.pointer (some ⟨w.heap.size + 1, 10, none⟩))).setCell ⟨b, 4, none⟩ (.pointer (some ⟨w.heap.size + 1, 11, none⟩))).setCell ⟨b, 5, none⟩ (.pointer (some ⟨w.heap.size + 1, 4, none⟩))).setCell ⟨b, 6, none⟩ (.pointer (some ⟨w.heap.size + 1, 5, none⟩))).setCell ⟨b, 7, none⟩ (.pointer (some ⟨w.heap.size + 1, 6, none⟩))).heap[b]? = some (.cells #[.pointer (some ⟨w.heap.size + 1, 0, none⟩), .pointer (some ⟨w.heap.size + 1, 1, none⟩), .pointer (some ⟨w.heap.size + 1, 2, none⟩), .pointer (some ⟨w.heap.size + 1, 10, none⟩), .pointer (some ⟨w.heap.size + 1, 11, none⟩), .pointer (some ⟨w.heap.size + 1, 4, none⟩), .pointer (some ⟨w.heap.size + 1, 5, none⟩), .pointer (some ⟨w.heap.size + 1, 6, none⟩), .pointer none, .pointer none, .pointer none] 96 (0, 0)) := heap_setCell_same _ b 7 _ _ _ g6
    have g8 : (((((((((W.setCell ⟨b, 0, none⟩ (.pointer (some ⟨w.heap.size + 1, 0, none⟩))).setCell ⟨b, 1, none⟩ (.pointer (some ⟨w.heap.size + 1, 1, none⟩))).setCell ⟨b, 2, none⟩ (.pointer (some ⟨w.heap.size + 1, 2, none⟩))).setCell ⟨b, 3, none⟩ (.pointer (some ⟨w.heap.size + 1, 10, none⟩))).setCell ⟨b, 4, none⟩ (.pointer (some ⟨w.heap.size + 1, 11, none⟩))).setCell ⟨b, 5, none⟩ (.pointer (some ⟨w.heap.size + 1, 4, none⟩))).setCell ⟨b, 6, none⟩ (.pointer (some ⟨w.heap.size + 1, 5, none⟩))).setCell ⟨b, 7, none⟩ (.pointer (some ⟨w.heap.size + 1, 6, none⟩))).setCell ⟨b, 8, none⟩ (.pointer (some ⟨w.heap.size + 1, 7, none⟩))).heap[b]? = some (.cells #[.pointer (some ⟨w.heap.size + 1, 0, none⟩), .pointer (some ⟨w.heap.size + 1, 1, none⟩), .pointer (some ⟨w.heap.size + 1, 2, none⟩), .pointer (some ⟨w.heap.size + 1, 10, none⟩), .pointer (some ⟨w.heap.size + 1, 11, none⟩), .pointer (some ⟨w.heap.size + 1, 4, none⟩), .pointer (some ⟨w.heap.size + 1, 5, none⟩), .pointer (some ⟨w.heap.size + 1, 6, none⟩), .pointer (some ⟨w.heap.size + 1, 7, none⟩), .pointer none, .pointer none] 96 (0, 0)) := heap_setCell_same _ b 8 _ _ _ g7
    have g9 : ((((((((((W.setCell ⟨b, 0, none⟩ (.pointer (some ⟨w.heap.size + 1, 0, none⟩))).setCell ⟨b, 1, none⟩ (.pointer (some ⟨w.heap.size + 1, 1, none⟩))).setCell ⟨b, 2, none⟩ (.pointer (some ⟨w.heap.size + 1, 2, none⟩))).setCell ⟨b, 3, none⟩ (.pointer (some ⟨w.heap.size + 1, 10, none⟩))).setCell ⟨b, 4, none⟩ (.pointer (some ⟨w.heap.size + 1, 11, none⟩))).setCell ⟨b, 5, none⟩ (.pointer (some ⟨w.heap.size + 1, 4, none⟩))).setCell ⟨b, 6, none⟩ (.pointer (some ⟨w.heap.size + 1, 5, none⟩))).setCell ⟨b, 7, none⟩ (.pointer (some ⟨w.heap.size + 1, 6, none⟩))).setCell ⟨b, 8, none⟩ (.pointer (some ⟨w.heap.size + 1, 7, none⟩))).setCell ⟨b, 9, none⟩ (.pointer (some ⟨w.heap.size + 1, 8, none⟩))).heap[b]? = some (.cells #[.pointer (some ⟨w.heap.size + 1, 0, none⟩), .pointer (some ⟨w.heap.size + 1, 1, none⟩), .pointer (some ⟨w.heap.size + 1, 2, none⟩), .pointer (some ⟨w.heap.size + 1, 10, none⟩), .pointer (some ⟨w.heap.size + 1, 11, none⟩), .pointer (some ⟨w.heap.size + 1, 4, none⟩), .pointer (some ⟨w.heap.size + 1, 5, none⟩), .pointer (some ⟨w.heap.size + 1, 6, none⟩), .pointer (some ⟨w.heap.size + 1, 7, none⟩), .pointer (some ⟨w.heap.size + 1, 8, none⟩), .pointer none] 96 (0, 0)) := heap_setCell_same _ b 9 _ _ _ g8
    have g10 : (((((((((((W.setCell ⟨b, 0, none⟩ (.pointer (some ⟨w.heap.size + 1, 0, none⟩))).setCell ⟨b, 1, none⟩ (.pointer (some ⟨w.heap.size + 1, 1, none⟩))).setCell ⟨b, 2, none⟩ (.pointer (some ⟨w.heap.size + 1, 2, none⟩))).setCell ⟨b, 3, none⟩ (.pointer (some ⟨w.heap.size + 1, 10, none⟩))).setCell ⟨b, 4, none⟩ (.pointer (some ⟨w.heap.size + 1, 11, none⟩))).setCell ⟨b, 5, none⟩ (.pointer (some ⟨w.heap.size + 1, 4, none⟩))).setCell ⟨b, 6, none⟩ (.pointer (some ⟨w.heap.size + 1, 5, none⟩))).setCell ⟨b, 7, none⟩ (.pointer (some ⟨w.heap.size + 1, 6, none⟩))).setCell ⟨b, 8, none⟩ (.pointer (some ⟨w.heap.size + 1, 7, none⟩))).setCell ⟨b, 9, none⟩ (.pointer (some ⟨w.heap.size + 1, 8, none⟩))).setCell ⟨b, 10, none⟩ (.pointer (some ⟨w.heap.size + 1, 9, none⟩))).heap[b]? = some (.cells #[.pointer (some ⟨w.heap.size + 1, 0, none⟩), .pointer (some ⟨w.heap.size + 1, 1, none⟩), .pointer (some ⟨w.heap.size + 1, 2, none⟩), .pointer (some ⟨w.heap.size + 1, 10, none⟩), .pointer (some ⟨w.heap.size + 1, 11, none⟩), .pointer (some ⟨w.heap.size + 1, 4, none⟩), .pointer (some ⟨w.heap.size + 1, 5, none⟩), .pointer (some ⟨w.heap.size + 1, 6, none⟩), .pointer (some ⟨w.heap.size + 1, 7, none⟩), .pointer (some ⟨w.heap.size + 1, 8, none⟩), .pointer (some ⟨w.heap.size + 1, 9, none⟩)] 96 (0, 0)) := heap_setCell_same _ b 10 _ _ _ g9

    have hF5 : FldBlk2 (((((((((((W.setCell ⟨b, 0, none⟩ (.pointer (some ⟨w.heap.size + 1, 0, none⟩))).setCell ⟨b, 1, none⟩ (.pointer (some ⟨w.heap.size + 1, 1, none⟩))).setCell ⟨b, 2, none⟩ (.pointer (some ⟨w.heap.size + 1, 2, none⟩))).setCell ⟨b, 3, none⟩ (.pointer (some ⟨w.heap.size + 1, 10, none⟩))).setCell ⟨b, 4, none⟩ (.pointer (some ⟨w.heap.size + 1, 11, none⟩))).setCell ⟨b, 5, none⟩ (.pointer (some ⟨w.heap.size + 1, 4, none⟩))).setCell ⟨b, 6, none⟩ (.pointer (some ⟨w.heap.size + 1, 5, none⟩))).setCell ⟨b, 7, none⟩ (.pointer (some ⟨w.heap.size + 1, 6, none⟩))).setCell ⟨b, 8, none⟩ (.pointer (some ⟨w.heap.size + 1, 7, none⟩))).setCell ⟨b, 9, none⟩ (.pointer (some ⟨w.heap.size + 1, 8, none⟩))).setCell ⟨b, 10, none⟩ (.pointer (some ⟨w.heap.size + 1, 9, none⟩))) b (w.heap.size + 1) := g10
    have hX5 : Ext w1 (((((((((((W.setCell ⟨b, 0, none⟩ (.pointer (some ⟨w.heap.size + 1, 0, none⟩))).setCell ⟨b, 1, none⟩ (.pointer (some ⟨w.heap.size + 1, 1, none⟩))).setCell ⟨b, 2, none⟩ (.pointer (some ⟨w.heap.size + 1, 2, none⟩))).setCell ⟨b, 3, none⟩ (.pointer (some ⟨w.heap.size + 1, 10, none⟩))).setCell ⟨b, 4, none⟩ (.pointer (some ⟨w.heap.size + 1, 11, none⟩))).setCell ⟨b, 5, none⟩ (.pointer (some ⟨w.heap.size + 1, 4, none⟩))).setCell ⟨b, 6, none⟩ (.pointer (some ⟨w.heap.size + 1, 5, none⟩))).setCell ⟨b, 7, none⟩ (.pointer (some ⟨w.heap.size + 1, 6, none⟩))).setCell ⟨b, 8, none⟩ (.pointer (some ⟨w.heap.size + 1, 7, none⟩))).setCell ⟨b, 9, none⟩ (.pointer (some ⟨w.heap.size + 1, 8, none⟩))).setCell ⟨b, 10, none⟩ (.pointer (some ⟨w.heap.size + 1, 9, none⟩))) := by repeat' (first | with_reducible exact hE3 | with_reducible refine Ext.setCell ?_ hb _)
    generalize (((((((((((W.setCell ⟨b, 0, none⟩ (.pointer (some ⟨w.heap.size + 1, 0, none⟩))).setCell ⟨b, 1, none⟩ (.pointer (some ⟨w.heap.size + 1, 1, none⟩))).setCell ⟨b, 2, none⟩ (.pointer (some ⟨w.heap.size + 1, 2, none⟩))).setCell ⟨b, 3, none⟩ (.pointer (some ⟨w.heap.size + 1, 10, none⟩))).setCell ⟨b, 4, none⟩ (.pointer (some ⟨w.heap.size + 1, 11, none⟩))).setCell ⟨b, 5, none⟩ (.pointer (some ⟨w.heap.size + 1, 4, none⟩))).setCell ⟨b, 6, none⟩ (.pointer (some ⟨w.heap.size + 1, 5, none⟩))).setCell ⟨b, 7, none⟩ (.pointer (some ⟨w.heap.size + 1, 6, none⟩))).setCell ⟨b, 8, none⟩ (.pointer (some ⟨w.heap.size + 1, 7, none⟩))).setCell ⟨b, 9, none⟩ (.pointer (some ⟨w.heap.size + 1, 8, none⟩))).setCell ⟨b, 10, none⟩ (.pointer (some ⟨w.heap.size + 1, 9, none⟩))) = W5 at *
    clear g0 g1 g2 g3 g4 g5 g6 g7 g8 g9 g10 k0 k1 k2 k3 k4 k5 k6 k7 k8 k9 k10 kf hblk
    have hS5 := hS1.ext hX5
    have hA5 := hA1.ext hX5
    have hE5 := hE01.trans hX5
    refine (get2_any (w.heap.size + 1) b (w.heap.size + 1) _ _ _ xs _ (h1.ext hE5) hn1 hF5 hA5 (by omega) (by omega) (by omega)).mono ?_
    rintro e w2 ⟨rfl, hB⟩
    have hz := lt_of_block hS5
    have hS2 : RepBlk w2 w.heap.size rep0 := (hB.block _ (by omega)).trans hS5
    have hE2 : Ext w w2 := Below.trans hE5 (Below.mono hB (by omega))
    have s0 := cell_of_block hS2 0 (.int .i64 0) rfl
    have s1 := cell_of_block hS2 1 (.int .i64 0) rfl
    have s2 := cell_of_block hS2 2 (.int .i64 0) rfl
    have s3 := cell_of_block hS2 3 (.int .u64 0) rfl
    have s4 := cell_of_block hS2 4 (.int .i64 0) rfl
    have s5 := cell_of_block hS2 5 (.int .i64 0) rfl
    have s6 := cell_of_block hS2 6 (.int .i64 0) rfl
    have s7 := cell_of_block hS2 7 (.int .i64 0) rfl
    have s8 := cell_of_block hS2 8 (.int .i64 0) rfl
    have s9 := cell_of_block hS2 9 (.int .i64 0) rfl
    have sf := free_of_block hS2
    clear hS1 hA1 hS5 hA5 hF5 hB hE5 hX5 hE3 hE01
    rcases hL : lrep xs with _ | q
    · have HL := Lib.hid hL
      clear hL
      simp only [repV, rep0, Option.getD_none, Option.isSome_none, Bool.false_eq_true, if_false]
      go_wp2
      refine bodyPost_ret (res_getRep _ w.heap.size rep0 7 _ (by rfl) (by rfl) (RepBlk.stored hS2 0 0 0 0 0 0 0 0 0 0)) rfl ?_
      exact repPost_no HL.out rfl (by repeat' (first | with_reducible exact hE2 | with_reducible refine Ext.setCell ?_ (Nat.le_refl _) _))
    · have HL := Lib.hid hL
      clear hL
      obtain ⟨a, h, r, n, lo, hi, k, t, c, s⟩ := q
      simp only [repV, Option.getD_some, Option.isSome_some, if_true]
      go_wp2
      refine bodyPost_ret (res_getRep _ w.heap.size ⟨a, h, r, n, lo, hi, k, t, c, s⟩ 0 _ (by rfl) (by rfl) (RepBlk.stored hS2 a h r n lo hi k t c s)) rfl ?_
      exact repPost_yes HL.out rfl (by repeat' (first | with_reducible exact hE2 | with_reducible refine Ext.setCell ?_ (Nat.le_refl _) _))

end Go.Proofs.YtdmfdimhjemngaaGreatDoor
