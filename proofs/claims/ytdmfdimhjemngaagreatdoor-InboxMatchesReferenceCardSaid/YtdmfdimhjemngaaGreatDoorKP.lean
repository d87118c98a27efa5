/-
  The plain laws of packets. No program in sight.
-/
import Derived.Test.YtdmfdimhjemngaaGreatDoorKA
namespace Go.Proofs.YtdmfdimhjemngaaGreatDoor
open Go.RowKit
set_option linter.unusedSimpArgs false
set_option linter.unusedVariables false
set_option maxRecDepth 100000

theorem halfB_mk {n : Int} (h1 : 0 ≤ n) (h2 : n ≤ 4294967295) : halfB n = true := inB_iff.2 ⟨h1, h2⟩

theorem lints_pkt {k : Int} {l : List Int} (hw : ∀ x ∈ l, (Lit.int .i64 x).wf = true) (hl : l.length ≤ 1000) : lints k l.length (pkt k l) = some l := by
  show (if k = k then _ else none) = _
  rw [if_pos rfl, lget_lput hw hl]
  simp

theorem lints_conv {k : Int} {m : Nat} {xs l : List Int} (hw : ∀ x ∈ xs, (Lit.int .u8 x).wf = true) (h : lints k m xs = some l) : pkt k l = xs ∧ l.length = m ∧ ∀ x ∈ l, (Lit.int .i64 x).wf = true := by
  rcases xs with _ | ⟨c, t⟩
  · cases h
  · unfold lints at h
    simp only at h
    split at h
    · rename_i hc
      subst hc
      split at h
      · rename_i l' hg
        split at h
        · rename_i hm
          cases h
          obtain ⟨h1, h2, h3⟩ := lput_lget (fun x hx => hw x (by simp [hx])) hg
          exact ⟨by unfold pkt; rw [h1], hm, h3⟩
        · cases h
      · cases h
    · cases h

theorem reqOf_ints {h a r n : Int} (hn : 0 ≤ n ∧ n ≤ 18446744073709551615) (hb : reqB h a r = true) : reqOf (reqInts h a r n) = some (h, a, r, n) := by
  unfold reqInts reqOf
  simp only
  rw [if_pos (by rw [halfB_mk (by omega) (by omega), halfB_mk (by omega) (by omega), hb]; rfl)]
  congr 3
  rw [show n / 4294967296 * 4294967296 + n % 4294967296 = n by omega]

/-- A valid request is read from its packet. -/
theorem lreq_pkt {h a r n : Int} (hw : ReqW h a r n) (hb : reqB h a r = true) : lreq (pkt 1 (reqInts h a r n)) = some (h, a, r, n) := by
  have := lints_pkt (k := 1) (l := reqInts h a r n) hw.ints (by simp [reqInts])
  unfold lreq
  rw [show (5 : Nat) = (reqInts h a r n).length from rfl, this]
  exact reqOf_ints (wf_u64 hw.n) hb

theorem reqOf_conv {l : List Int} {h a r n : Int} (hw : ∀ x ∈ l, (Lit.int .i64 x).wf = true) (he : reqOf l = some (h, a, r, n)) : l = reqInts h a r n ∧ reqB h a r = true ∧ ReqW h a r n := by
  unfold reqOf at he
  split at he
  · rename_i h' a' r' u' l'
    split at he
    · rename_i hc
      simp only [Bool.and_eq_true] at hc
      simp only [Option.some.injEq, Prod.mk.injEq] at he
      obtain ⟨rfl, rfl, rfl, rfl⟩ := he
      have h3 := inB_iff.1 hc.1.1
      have h4 := inB_iff.1 hc.1.2
      refine ⟨?_, hc.2, hw _ (by simp), hw _ (by simp), hw _ (by simp), ?_⟩
      · unfold reqInts
        rw [show (u' * 4294967296 + l') / 4294967296 = u' by omega, show (u' * 4294967296 + l') % 4294967296 = l' by omega]
      · simp [Lit.wf, IntKind.min, IntKind.max, IntKind.bits, IntKind.signed]; omega
    · cases he
  · cases he

/-- Bytes that are read as a request are its packet. -/
theorem lreq_conv {xs : List Int} {h a r n : Int} (hw : ∀ x ∈ xs, (Lit.int .u8 x).wf = true) (he : lreq xs = some (h, a, r, n)) : pkt 1 (reqInts h a r n) = xs ∧ reqB h a r = true ∧ ReqW h a r n := by
  unfold lreq at he
  rcases hl : lints 1 5 xs with _ | l
  · rw [hl] at he; cases he
  · rw [hl] at he
    obtain ⟨h1, h2, h3⟩ := lints_conv hw hl
    obtain ⟨rfl, h4, h5⟩ := reqOf_conv h3 he
    exact ⟨h1, h4, h5⟩

def Rep.ints (q : Rep) : List Int := repInts q.a q.h q.r q.n q.lo q.hi q.k q.t q.c q.s
def Rep.ok (q : Rep) : Bool := repB q.a q.h q.r q.lo q.hi q.k q.t q.c q.s
def Rep.W (q : Rep) : Prop := RepW q.a q.h q.r q.n q.lo q.hi q.k q.t q.c q.s

theorem repOf_ints {q : Rep} (hn : 0 ≤ q.n ∧ q.n ≤ 18446744073709551615) (hb : q.ok = true) : repOf q.ints = some q := by
  obtain ⟨a, h, r, n, lo, hi, k, t, c, s⟩ := q
  simp only [Rep.ok] at hb hn
  unfold Rep.ints repInts repOf
  simp only
  rw [if_pos (by rw [halfB_mk (by omega) (by omega), halfB_mk (by omega) (by omega), hb]; rfl)]
  rw [show n / 4294967296 * 4294967296 + n % 4294967296 = n by omega]

/-- A valid reply is read from its packet. -/
theorem lrep_pkt {q : Rep} (hw : q.W) (hb : q.ok = true) : lrep (pkt 2 q.ints) = some q := by
  have := lints_pkt (k := 2) (l := q.ints) (RepW.ints hw) (by simp [Rep.ints, repInts])
  unfold lrep
  rw [show (11 : Nat) = q.ints.length from rfl, this]
  exact repOf_ints (wf_u64 hw.q.n) hb

theorem repOf_conv {l : List Int} {q : Rep} (hw : ∀ x ∈ l, (Lit.int .i64 x).wf = true) (he : repOf l = some q) : l = q.ints ∧ q.ok = true ∧ q.W := by
  unfold repOf at he
  split at he
  · rename_i a' h' r' u' l' lo' hi' k' t' c' s'
    split at he
    · rename_i hc
      simp only [Bool.and_eq_true] at hc
      simp only [Option.some.injEq] at he
      subst he
      have h3 := inB_iff.1 hc.1.1
      have h4 := inB_iff.1 hc.1.2
      refine ⟨?_, hc.2, ⟨hw _ (by simp), hw _ (by simp), hw _ (by simp), ?_⟩, hw _ (by simp), hw _ (by simp), hw _ (by simp), hw _ (by simp), hw _ (by simp), hw _ (by simp)⟩
      · unfold Rep.ints repInts
        simp only
        rw [show (u' * 4294967296 + l') / 4294967296 = u' by omega, show (u' * 4294967296 + l') % 4294967296 = l' by omega]
      · simp [Lit.wf, IntKind.min, IntKind.max, IntKind.bits, IntKind.signed]; omega
    · cases he
  · cases he

/-- Bytes that are read as a reply are its packet. -/
theorem lrep_conv {xs : List Int} {q : Rep} (hw : ∀ x ∈ xs, (Lit.int .u8 x).wf = true) (he : lrep xs = some q) : pkt 2 q.ints = xs ∧ q.ok = true ∧ q.W := by
  unfold lrep at he
  rcases hl : lints 2 11 xs with _ | l
  · rw [hl] at he; cases he
  · rw [hl] at he
    obtain ⟨h1, h2, h3⟩ := lints_conv hw hl
    obtain ⟨rfl, h4, h5⟩ := repOf_conv h3 he
    exact ⟨h1, h4, h5⟩

theorem lints_kind {k k' : Int} {m : Nat} {l t : List Int} (h : k' ≠ k) : lints k m (k' :: t) = none := by unfold lints; simp [h]

/-- No bytes are read both ways. -/
theorem lreq_lrep {xs : List Int} {q : Req4} (h : lreq xs = some q) : lrep xs = none := by
  rcases xs with _ | ⟨c, t⟩
  · rfl
  · by_cases hc : c = 1
    · subst hc
      unfold lrep
      rw [lints_kind (l := []) (by omega)]; rfl
    · unfold lreq at h
      rw [lints_kind (l := []) hc] at h; cases h

theorem lints_cut {k : Int} {m : Nat} {l : List Int} (hw : ∀ x ∈ l, (Lit.int .i64 x).wf = true) (hl : l.length ≤ 1000) {j : Nat} (hj : j < (pkt k l).length) : lints k m ((pkt k l).take j) = none := by
  rcases j with _ | j
  · rfl
  · unfold pkt at hj ⊢
    rw [List.take_succ_cons]
    unfold lints
    simp only
    rw [lget_cut hl hw (by simpa using hj)]
    simp
theorem lints_more {k : Int} {m : Nat} {l t : List Int} (hw : ∀ x ∈ l, (Lit.int .i64 x).wf = true) (hl : l.length ≤ 1000) (ht : t ≠ []) : lints k m (pkt k l ++ t) = none := by
  unfold pkt
  rw [List.cons_append]
  unfold lints
  simp only
  rw [lget_more hw hl, if_neg ht]
  simp
theorem lints_other {k k' : Int} {m : Nat} {l : List Int} (h : k' ≠ k) (j : Nat) : lints k m ((pkt k' l).take j) = none := by
  rcases j with _ | j
  · rfl
  · unfold pkt; rw [List.take_succ_cons]; exact lints_kind (l := []) h
theorem lints_other' {k k' : Int} {m : Nat} {l t : List Int} (h : k' ≠ k) : lints k m (pkt k' l ++ t) = none := by
  unfold pkt; rw [List.cons_append]; exact lints_kind (l := []) h

theorem pkt_inj {k : Int} {l m : List Int} (hl : ∀ x ∈ l, (Lit.int .i64 x).wf = true) (hm : ∀ x ∈ m, (Lit.int .i64 x).wf = true) (h1 : l.length ≤ 1000) (h2 : m.length ≤ 1000) (h : pkt k l = pkt k m) : l = m := by
  have h3 : lput l = lput m := by unfold pkt at h; simpa using h
  have h4 := lget_lput hl h1
  rw [h3, lget_lput hm h2] at h4
  exact (Option.some.inj h4).symm

theorem digs_le {u m : Nat} (h : u < 128 ^ m) (hm : 1 ≤ m) : 1 ≤ (digs u).length ∧ (digs u).length ≤ m := by
  have h1 := digs_len u
  have h2 := h1.2 m h
  exact ⟨h1.1, by omega⟩

theorem num_le {n : Int} {b : Nat} (h0 : 0 ≤ n) (h : n < (b : Int)) : num n < 2 * b := by unfold num; rw [if_neg (by omega)]; omega

theorem dlen {n : Int} (b m : Nat) (h0 : 0 ≤ n) (h : n < (b : Int)) (hm : 1 ≤ m) (hb : 2 * b ≤ 128 ^ m) : 1 ≤ (digs (num n)).length ∧ (digs (num n)).length ≤ m :=
  digs_le (Nat.lt_of_lt_of_le (num_le h0 h) hb) hm

theorem lput_length (l : List Int) : (lput l).length = (digs (num l.length)).length + (l.map fun x => (digs (num x)).length).sum := by
  unfold lput
  rw [List.length_append, List.length_flatMap]

theorem pkt_req_size {h a r n : Int} (hn : 0 ≤ n ∧ n ≤ 18446744073709551615) (hb : reqB h a r = true) : 7 ≤ (pkt 1 (reqInts h a r n)).length ∧ (pkt 1 (reqInts h a r n)).length ≤ 17 := by
  unfold reqB at hb
  simp only [Bool.and_eq_true, inB_iff] at hb
  obtain ⟨h1, h2, h3⟩ := hb
  have e0 := dlen (n := (5 : Nat)) 64 1 (by omega) (by omega) (by omega) (by decide)
  have e1 := dlen (n := h) 65 2 (by omega) (by omega) (by omega) (by decide)
  have e2 := dlen (n := a) 64 1 (by omega) (by omega) (by omega) (by decide)
  have e3 := dlen (n := r) 201 2 (by omega) (by omega) (by omega) (by decide)
  have e4 := dlen (n := n / 4294967296) 4294967296 5 (by omega) (by omega) (by omega) (by decide)
  have e5 := dlen (n := n % 4294967296) 4294967296 5 (by omega) (by omega) (by omega) (by decide)
  have e : (pkt 1 (reqInts h a r n)).length = 1 + ((digs (num (5 : Nat))).length + ((digs (num h)).length + ((digs (num a)).length + ((digs (num r)).length + ((digs (num (n / 4294967296))).length + (digs (num (n % 4294967296))).length))))) := by
    unfold pkt
    rw [List.length_cons, lput_length]
    simp [reqInts]
    omega
  rw [e]
  omega

theorem pkt_rep_size {q : Rep} (hn : 0 ≤ q.n ∧ q.n ≤ 18446744073709551615) (hb : q.ok = true) : 13 ≤ (pkt 2 q.ints).length ∧ (pkt 2 q.ints).length ≤ 47 := by
  obtain ⟨a, h, r, n, lo, hi, k, t, c, s⟩ := q
  unfold Rep.ok repB reqB at hb
  simp only [Bool.and_eq_true, inB_iff, validB_iff] at hb hn
  obtain ⟨⟨h1, h2, h3⟩, h4, h5, h6, h7, h8⟩ := hb
  have e0 := dlen (n := (11 : Nat)) 64 1 (by omega) (by omega) (by omega) (by decide)
  have e1 := dlen (n := h) 65 2 (by omega) (by omega) (by omega) (by decide)
  have e2 := dlen (n := a) 64 1 (by omega) (by omega) (by omega) (by decide)
  have e3 := dlen (n := r) 201 2 (by omega) (by omega) (by omega) (by decide)
  have e4 := dlen (n := n / 4294967296) 4294967296 5 (by omega) (by omega) (by omega) (by decide)
  have e5 := dlen (n := n % 4294967296) 4294967296 5 (by omega) (by omega) (by omega) (by decide)
  have e6 := dlen (n := lo) 3000000000000001 8 (by omega) (by omega) (by omega) (by decide)
  have e7 := dlen (n := hi) 3000000000000001 8 (by omega) (by omega) (by omega) (by decide)
  have e8 := dlen (n := k) 1001 2 (by omega) (by omega) (by omega) (by decide)
  have e9 := dlen (n := t) 1001 2 (by omega) (by omega) (by omega) (by decide)
  have e10 := dlen (n := c) 1073741789 5 (by omega) (by omega) (by omega) (by decide)
  have e11 := dlen (n := s) 1073741789 5 (by omega) (by omega) (by omega) (by decide)
  have e : (pkt 2 (Rep.ints ⟨a, h, r, n, lo, hi, k, t, c, s⟩)).length = 1 + ((digs (num (11 : Nat))).length + ((digs (num a)).length + ((digs (num h)).length + ((digs (num r)).length + ((digs (num (n / 4294967296))).length + ((digs (num (n % 4294967296))).length + ((digs (num lo)).length + ((digs (num hi)).length + ((digs (num k)).length + ((digs (num t)).length + ((digs (num c)).length + (digs (num s)).length))))))))))) := by
    unfold pkt
    rw [List.length_cons, lput_length]
    simp [Rep.ints, repInts]
    omega
  rw [e]
  omega

end Go.Proofs.YtdmfdimhjemngaaGreatDoor
