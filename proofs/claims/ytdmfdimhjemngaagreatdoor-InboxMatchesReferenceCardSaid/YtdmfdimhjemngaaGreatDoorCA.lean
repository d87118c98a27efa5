
import Derived.Test.YtdmfdimhjemngaaGreatDoorRws
import Derived.Test.YtdmfdimhjemngaaGreatDoorTB
import Derived.Test.YtdmfdimhjemngaaGreatDoorD13
import Derived.Deep.DeepCutAuto
/-
  Chains, plain: digests of replies, heads, nonces; what valid chains are; what the functions on chains answer.
-/
namespace Go.Proofs.YtdmfdimhjemngaaGreatDoor
open Go.RowKit
set_option linter.unusedSimpArgs false
set_option linter.unusedVariables false

/-- A reply. -/
structure Rp where
  a : Int
  h : Int
  r : Int
  n : Int
  lo : Int
  hi : Int
  k : Int
  t : Int
  c : Int
  s : Int
  deriving DecidableEq

def Rp.enc (x : Rp) : List Value := [.int .i64 x.a, .int .i64 x.h, .int .i64 x.r, .int .u64 x.n, .int .i64 x.lo, .int .i64 x.hi, .int .i64 x.k, .int .i64 x.t, .int .i64 x.c, .int .i64 x.s]
structure Rp.Ok (x : Rp) : Prop where
  a : (Lit.int .i64 x.a).wf = true
  h : (Lit.int .i64 x.h).wf = true
  r : (Lit.int .i64 x.r).wf = true
  n : (Lit.int .u64 x.n).wf = true
  lo : (Lit.int .i64 x.lo).wf = true
  hi : (Lit.int .i64 x.hi).wf = true
  k : (Lit.int .i64 x.k).wf = true
  t : (Lit.int .i64 x.t).wf = true
  c : (Lit.int .i64 x.c).wf = true
  s : (Lit.int .i64 x.s).wf = true
instance : Cel Rp where
  dflt := ⟨0, 0, 0, 0, 0, 0, 0, 0, 0, 0⟩
  sz := 10
  enc := Rp.enc
  ok := Rp.Ok
  len := fun _ => rfl
  pos := by omega
  one := by intro x v hv; simp only [Rp.enc, List.mem_cons, List.not_mem_nil, or_false] at hv; rcases hv with rfl | rfl | rfl | rfl | rfl | rfl | rfl | rfl | rfl | rfl <;> rfl
theorem sz_rp : Cel.sz Rp = 10 := rfl
theorem enc_rp (x : Rp) : Cel.enc x = x.enc := rfl

/-- The halves of a number. -/
def hv (n : Int) : List Int := [n / 4294967296, n % 4294967296]
/-- The integers whose digest is that of a reply. -/
def digL (x : Rp) : List Int := [x.a, x.h, x.r, x.n / 4294967296, x.n % 4294967296, x.lo, x.hi, x.k, x.t, x.c, x.s]
def digR (x : Rp) : Int := fnv (txt (digL x))
def behM (xs : List Rp) : List Int := xs.flatMap fun x => hv (digR x)
def behL (xs : List Rp) : List Int := (xs.length : Int) :: behM xs
/-- The head behind a round. -/
def beh (h : Int) (xs : List Rp) : Int := fnv (be8 h.toNat ++ txt (behL xs))
def headF (rs : List (List Rp)) : Int := rs.foldl beh 0
def nonF (head host round auth : Int) : Int := fnv (be8 head.toNat ++ txt [host, round, auth])

theorem beh_rng (h : Int) (xs : List Rp) : 0 ≤ beh h xs ∧ beh h xs ≤ 18446744073709551615 := fnv_rng _
theorem digR_rng (x : Rp) : 0 ≤ digR x ∧ digR x ≤ 18446744073709551615 := fnv_rng _
theorem nonF_rng (a b c d : Int) : 0 ≤ nonF a b c d ∧ nonF a b c d ≤ 18446744073709551615 := fnv_rng _
theorem headF_nil : headF [] = 0 := rfl
theorem headF_snoc (rs : List (List Rp)) (r : List Rp) : headF (rs ++ [r]) = beh (headF rs) r := by simp [headF]
theorem headF_rng (rs : List (List Rp)) : 0 ≤ headF rs ∧ headF rs ≤ 18446744073709551615 := by
  rcases List.eq_nil_or_concat rs with rfl | ⟨rs, r, rfl⟩
  · rw [headF_nil]; omega
  · rw [List.concat_eq_append, headF_snoc]; exact beh_rng _ _
theorem headF_take {rs : List (List Rp)} {k : Nat} (h : k < rs.length) : headF (rs.take (k + 1)) = beh (headF (rs.take k)) (nthS rs k) := by
  rw [take_nthS_succ h, headF_snoc]
theorem behM_snoc (xs : List Rp) (x : Rp) : behM (xs ++ [x]) = behM xs ++ hv (digR x) := by simp [behM]
theorem behM_take {xs : List Rp} {k : Nat} (h : k < xs.length) : behM (xs.take (k + 1)) = behM (xs.take k) ++ hv (digR (nthR xs k)) := by
  rw [take_nthR_succ h, behM_snoc]
theorem behM_len (xs : List Rp) : (behM xs).length = 2 * xs.length := by
  induction xs with
  | nil => rfl
  | cons x xs ih => simp only [behM, List.flatMap_cons, List.length_append, List.length_cons] at ih ⊢; rw [ih]; simp [hv]; omega
theorem hv_wf {n : Int} (h : 0 ≤ n ∧ n ≤ 18446744073709551615) : ∀ x ∈ hv n, (Lit.int .i64 x).wf = true := by
  intro x hx
  simp only [hv, List.mem_cons, List.not_mem_nil, or_false] at hx
  rcases hx with rfl | rfl <;> (simp [Lit.wf, IntKind.min, IntKind.max, IntKind.signed, IntKind.bits]; omega)
theorem behM_wf (xs : List Rp) : ∀ x ∈ behM xs, (Lit.int .i64 x).wf = true := by
  intro x hx
  obtain ⟨y, _, h⟩ := List.mem_flatMap.1 hx
  exact hv_wf (digR_rng y) x h
theorem nat_wf {n : Nat} (h : n ≤ 9223372036854775807) : (Lit.int .i64 (n : Int)).wf = true := by simp [Lit.wf, IntKind.min, IntKind.max, IntKind.signed, IntKind.bits]; omega
theorem behL_wf {xs : List Rp} (h : xs.length ≤ 9223372036854775807) : ∀ x ∈ behL xs, (Lit.int .i64 x).wf = true := by
  intro x hx
  rcases List.mem_cons.1 hx with rfl | hx
  · exact nat_wf h
  · exact behM_wf xs x hx
theorem Rp.Ok.digL {x : Rp} (h : x.Ok) : ∀ y ∈ digL x, (Lit.int .i64 y).wf = true := by
  intro y hy
  have hn := hv_wf (wf_u64 h.n)
  simp only [hv, List.mem_cons, List.not_mem_nil, or_false, forall_eq_or_imp, forall_eq] at hn
  simp only [Go.Proofs.YtdmfdimhjemngaaGreatDoor.digL, List.mem_cons, List.not_mem_nil, or_false] at hy
  rcases hy with rfl | rfl | rfl | rfl | rfl | rfl | rfl | rfl | rfl | rfl | rfl
  · exact h.a
  · exact h.h
  · exact h.r
  · exact hn.1
  · exact hn.2
  · exact h.lo
  · exact h.hi
  · exact h.k
  · exact h.t
  · exact h.c
  · exact h.s

/-! ### What is valid -/
def inC (n lo hi : Int) : Bool := decide (lo ≤ n ∧ n ≤ hi)
theorem inC_iff {n lo hi : Int} : inC n lo hi = true ↔ lo ≤ n ∧ n ≤ hi := by unfold inC; exact decide_eq_true_iff
def idsB (x : Rp) : Bool := inC x.a 1 16 && (inC x.h 1 64 && inC x.r 1 200)
def stampB (lo hi : Int) : Bool := decide (0 ≤ lo ∧ lo ≤ hi ∧ hi ≤ 3000000000000000)
def restB (x : Rp) : Bool := inC x.k 0 1000 && (inC x.t 0 1000 && (inC x.c 0 1073741788 && inC x.s 0 1073741788))
/-- A well-formed reply. -/
def wfR (x : Rp) : Bool := idsB x && (stampB x.lo x.hi && restB x)
def rightB (host number head : Int) (x : Rp) : Bool := wfR x && (x.h == host && (x.r == number && x.n == nonF head host number x.a))
def riseB (xs : List Rp) (i : Nat) : Bool := i == 0 || decide ((nthR xs (i - 1)).a < (nthR xs i).a)
def stepB' (host number head : Int) (xs : List Rp) (i : Nat) : Bool := riseB xs i && rightB host number head (nthR xs i)
/-- A round of a host, with a number and a head before it. -/
def fitsF (host number head : Int) (xs : List Rp) : Bool := (List.range xs.length).all (stepB' host number head xs)
def validAt (host : Int) (rs : List (List Rp)) (i : Nat) : Bool := fitsF host ((i : Int) + 1) (headF (rs.take i)) (nthS rs i)
def validF (host : Int) (rs : List (List Rp)) : Bool := inC host 1 64 && (decide (rs.length ≤ 200) && (List.range rs.length).all (validAt host rs))
def hasF (rs : List (List Rp)) (round auth : Int) : Bool := inC round 1 rs.length && (nthS rs (round - 1).toNat).any fun x => x.a == auth

theorem all_range {n : Nat} {p : Nat → Bool} : (List.range n).all p = true ↔ ∀ i, i < n → p i = true := by
  simp [List.all_eq_true]
theorem all_range_no {n k : Nat} {p : Nat → Bool} (hk : k < n) (h : p k = false) : (List.range n).all p = false := by
  rw [Bool.eq_false_iff]
  intro e
  rw [all_range.1 e k hk] at h
  cases h

def befOk (host : Int) (rs : List (List Rp)) (round auth later other : Int) : Bool := hasF rs round auth && hasF rs later other
def befE (host : Int) (rs : List (List Rp)) (round auth later other : Int) : Int := if validF host rs then (if befOk host rs round auth later other then 0 else 4) else 1
def befB (host : Int) (rs : List (List Rp)) (round auth later other : Int) : Bool := validF host rs && (befOk host rs round auth later other && decide (round < later))

def apdE (host : Int) (rs : List (List Rp)) (r : List Rp) : Int :=
  if validF host rs then (if rs.length = 200 then 2 else if fitsF host ((rs.length : Int) + 1) (headF rs) r then 0 else 30) else 1
def apdH (host : Int) (rs : List (List Rp)) (r : List Rp) : Int := if apdE host rs r = 0 then host else 0
def apdL (host : Int) (rs : List (List Rp)) (r : List Rp) : List (List Rp) := if apdE host rs r = 0 then rs ++ [r] else []
end Go.Proofs.YtdmfdimhjemngaaGreatDoor

/-
  The small functions on replies, walked: well-formed replies, halves, digests.
-/
namespace Go.Proofs.YtdmfdimhjemngaaGreatDoor
open Go.RowKit Go.Sort Go.Shelf
set_option linter.unusedSimpArgs false
set_option linter.unusedVariables false
set_option maxRecDepth 100000

theorem cwithin_any (n lo hi : Int) (w : World) : Calls Tryz.prog 42 #[.int .i64 n, .int .i64 lo, .int .i64 hi] w fun e w' => e = .returned (.bool (inC n lo hi)) ∧ w = w' := by
  by_cases h1 : lo ≤ n
  · by_cases h2 : n ≤ hi
    · have e : inC n lo hi = true := inC_iff.2 ⟨h1, h2⟩
      rw [e]; clear e
      go_enter Tryz.func42, Tryz.ntmps42
      go_wp2
      go_ret
      exact ⟨rfl, rfl⟩
    · have e : inC n lo hi = false := by unfold inC; simp; omega
      rw [e]; clear e
      go_enter Tryz.func42, Tryz.ntmps42
      go_wp2
      go_ret
      exact ⟨rfl, rfl⟩
  · have e : inC n lo hi = false := by unfold inC; simp; omega
    rw [e]; clear e
    go_enter Tryz.func42, Tryz.ntmps42
    go_wp2
    go_ret
    exact ⟨rfl, rfl⟩

theorem rwithin_any (n lo hi : Int) (w : World) : Calls Tryz.prog 47 #[.int .i64 n, .int .i64 lo, .int .i64 hi] w fun e w' => e = .returned (.bool (inC n lo hi)) ∧ w = w' := by
  by_cases h1 : lo ≤ n
  · by_cases h2 : n ≤ hi
    · have e : inC n lo hi = true := inC_iff.2 ⟨h1, h2⟩
      rw [e]; clear e
      go_enter Tryz.func47, Tryz.ntmps47
      go_wp2
      go_ret
      exact ⟨rfl, rfl⟩
    · have e : inC n lo hi = false := by unfold inC; simp; omega
      rw [e]; clear e
      go_enter Tryz.func47, Tryz.ntmps47
      go_wp2
      go_ret
      exact ⟨rfl, rfl⟩
  · have e : inC n lo hi = false := by unfold inC; simp; omega
    rw [e]; clear e
    go_enter Tryz.func47, Tryz.ntmps47
    go_wp2
    go_ret
    exact ⟨rfl, rfl⟩

/-- A reply as the value that stands in a slot. -/
def Rp.val (x : Rp) : Value := .agg #[.int .i64 x.a, .int .i64 x.h, .int .i64 x.r, .int .u64 x.n, .int .i64 x.lo, .int .i64 x.hi, .int .i64 x.k, .int .i64 x.t, .int .i64 x.c, .int .i64 x.s]

set_option maxHeartbeats 1000000 in
theorem cwell_any (x : Rp) (w : World) : Calls Tryz.prog 66 #[x.val] w fun e w' => e = .returned (.bool (wfR x)) ∧ Ext w w' := by
  unfold Rp.val
  have hE0 : Ext w (w.alloc (.cells #[.int .i64 x.a, .int .i64 x.h, .int .i64 x.r, .int .u64 x.n, .int .i64 x.lo, .int .i64 x.hi, .int .i64 x.k, .int .i64 x.t, .int .i64 x.c, .int .i64 x.s] 60)) := (Ext.refl w).alloc _
  go_enter Tryz.func66, Tryz.ntmps66
  go_upto_region 1 with fail
  go_cut [3] (fun s3 wx => s3 = .bool (idsB x) ∧ wx = w.alloc (.cells #[.int .i64 x.a, .int .i64 x.h, .int .i64 x.r, .int .u64 x.n, .int .i64 x.lo, .int .i64 x.hi, .int .i64 x.k, .int .i64 x.t, .int .i64 x.c, .int .i64 x.s] 60))
  case first =>
    go_wp2_with (go_at_call 42; refine (cwithin_any _ _ _ _).mono ?_; rintro e w' ⟨rfl, rfl⟩)
    all_goals (go_meet; exact ⟨by simp [idsB, *], rfl⟩)
  case rest =>
    obtain ⟨rfl, rfl⟩ := hcut
    generalize hi : idsB x = I
    have HI := Lib.hid hi
    clear hi
    go_upto_region 2 with fail
    go_cut [4] (fun s3 wx => s3 = .bool (stampB x.lo x.hi) ∧ wx = w.alloc (.cells #[.int .i64 x.a, .int .i64 x.h, .int .i64 x.r, .int .u64 x.n, .int .i64 x.lo, .int .i64 x.hi, .int .i64 x.k, .int .i64 x.t, .int .i64 x.c, .int .i64 x.s] 60))
    case first =>
      go_wp2_with fail
      all_goals (go_meet; exact ⟨by simp [stampB, *] <;> omega, rfl⟩)
    case rest =>
      obtain ⟨rfl, rfl⟩ := hcut
      generalize hs : stampB x.lo x.hi = S
      have HS := Lib.hid hs
      clear hs
      go_wp2_with (go_at_call 42; refine (cwithin_any _ _ _ _).mono ?_; rintro e w' ⟨rfl, rfl⟩)
      all_goals
        go_ret
        exact ⟨ret_bool (by simp [wfR, restB, HI.out, HS.out, *]), hE0⟩

set_option maxHeartbeats 1000000 in
theorem rwell_any (x : Rp) (w : World) : Calls Tryz.prog 70 #[x.val] w fun e w' => e = .returned (.bool (wfR x)) ∧ Ext w w' := by
  unfold Rp.val
  have hE0 : Ext w (w.alloc (.cells #[.int .i64 x.a, .int .i64 x.h, .int .i64 x.r, .int .u64 x.n, .int .i64 x.lo, .int .i64 x.hi, .int .i64 x.k, .int .i64 x.t, .int .i64 x.c, .int .i64 x.s] 60)) := (Ext.refl w).alloc _
  go_enter Tryz.func70, Tryz.ntmps70
  go_wp2_with (go_at_call 47; refine (rwithin_any _ _ _ _).mono ?_; rintro e w' ⟨rfl, rfl⟩)
  all_goals
    go_ret
    refine ⟨ret_bool ?_, hE0⟩
    first
      | (simp [wfR, idsB, stampB, restB, *]; done)
      | (have q : (!inC x.r 1 200) = true := by assumption
         rw [Bool.not_eq_true'] at q
         simp [wfR, idsB, q])
      | (have hs : stampB x.lo x.hi = false := by (simp [stampB]; omega)
         simp [wfR, hs])
      | (have q : (!inC x.r 1 200) = false := by assumption
         rw [Bool.not_eq_false'] at q
         simp [wfR, idsB, stampB, restB, q, *])

theorem and32c {n : Int} (h : 0 ≤ n ∧ n ≤ 18446744073709551615) : bits .and .u64 n 4294967295 = n % 4294967296 := by
  show IntKind.u64.wrap ((BitVec.ofInt 64 n &&& BitVec.ofInt 64 4294967295).toNat : Int) = _
  rw [BitVec.toNat_and, BitVec.toNat_ofInt, show (BitVec.ofInt 64 4294967295).toNat = 2 ^ 32 - 1 from rfl, Nat.and_two_pow_sub_one_eq_mod, IntKind.wrap_u64]
  have : (n % ((2 ^ 64 : Nat) : Int)).toNat = n.toNat := by omega
  rw [this]
  omega

theorem halves_any (n : Int) (hn : 0 ≤ n ∧ n ≤ 18446744073709551615) (w : World) : Calls Tryz.prog 67 #[.int .u64 n] w fun e w' => e = .returned (.agg #[.int .i64 (n / 4294967296), .int .i64 (n % 4294967296)]) ∧ Ext w w' := by
  go_enter Tryz.func67, Tryz.ntmps67
  go_wp2
  exact bodyPost_ret (v := .agg #[.int .i64 (n / 4294967296), .int .i64 (n % 4294967296)]) (by simp [results, Tryz.results67, go_sem]) rfl ⟨rfl, (Ext.refl w).alloc _⟩

theorem rhalves_any (n : Int) (hn : 0 ≤ n ∧ n ≤ 18446744073709551615) (w : World) : Calls Tryz.prog 71 #[.int .u64 n] w fun e w' => e = .returned (.slice (some ⟨w.heap.size, 0, none⟩) 2 2) ∧ w' = w.alloc (.cells #[.int .i64 (n / 4294967296), .int .i64 (n % 4294967296)] 3) := by
  have ha := and32c hn
  go_enter Tryz.func71, Tryz.ntmps71
  go_wp2
  go_ret
  exact ⟨rfl, rfl⟩

/-- A reply lies in a block of its own. -/
def RpB (W : World) (b : Nat) (x : Rp) : Prop := W.heap[b]? = some (.cells #[.int .i64 x.a, .int .i64 x.h, .int .i64 x.r, .int .u64 x.n, .int .i64 x.lo, .int .i64 x.hi, .int .i64 x.k, .int .i64 x.t, .int .i64 x.c, .int .i64 x.s] 60 (0, 0))
theorem RpB.new (w : World) (x : Rp) : RpB (w.alloc (.cells #[.int .i64 x.a, .int .i64 x.h, .int .i64 x.r, .int .u64 x.n, .int .i64 x.lo, .int .i64 x.hi, .int .i64 x.k, .int .i64 x.t, .int .i64 x.c, .int .i64 x.s] 60)) w.heap.size x := World.alloc_heap_new w _
theorem RpB.ext {W W' : World} {b : Nat} {x : Rp} (h : RpB W b x) (he : Ext W W') : RpB W' b x := (he.block _ (lt_of_block h)).trans h
theorem RpB.cells {W : World} {b : Nat} {x : Rp} (h : RpB W b x) : W.cell? ⟨b, 0, none⟩ = some (.int .i64 x.a) ∧ W.cell? ⟨b, 1, none⟩ = some (.int .i64 x.h) ∧ W.cell? ⟨b, 2, none⟩ = some (.int .i64 x.r) ∧ W.cell? ⟨b, 3, none⟩ = some (.int .u64 x.n) ∧
    W.cell? ⟨b, 4, none⟩ = some (.int .i64 x.lo) ∧ W.cell? ⟨b, 5, none⟩ = some (.int .i64 x.hi) ∧ W.cell? ⟨b, 6, none⟩ = some (.int .i64 x.k) ∧ W.cell? ⟨b, 7, none⟩ = some (.int .i64 x.t) ∧ W.cell? ⟨b, 8, none⟩ = some (.int .i64 x.c) ∧ W.cell? ⟨b, 9, none⟩ = some (.int .i64 x.s) :=
  ⟨cell_of_block h 0 _ rfl, cell_of_block h 1 _ rfl, cell_of_block h 2 _ rfl, cell_of_block h 3 _ rfl, cell_of_block h 4 _ rfl, cell_of_block h 5 _ rfl, cell_of_block h 6 _ rfl, cell_of_block h 7 _ rfl, cell_of_block h 8 _ rfl, cell_of_block h 9 _ rfl⟩

set_option maxHeartbeats 1000000 in
theorem dig_any (x : Rp) (hx : x.Ok) (w : World) (ht : TB w) : Calls Tryz.prog 68 #[x.val] w fun e w' => e = .returned (.int .u64 (digR x)) ∧ Ext w w' := by
  have HT := Lib.hid ht
  have hn := wf_u64 hx.n
  have hL := Lib.hid hx.digL
  clear ht hx
  unfold digR
  unfold Rp.val
  go_enter Tryz.func68, Tryz.ntmps68
  have hB := RpB.new w x
  have hE0 : Ext w _ := (Ext.refl w).alloc (.cells #[.int .i64 x.a, .int .i64 x.h, .int .i64 x.r, .int .u64 x.n, .int .i64 x.lo, .int .i64 x.hi, .int .i64 x.k, .int .i64 x.t, .int .i64 x.c, .int .i64 x.s] 60)
  go_wp2_with fail
  generalize w.alloc (.cells #[.int .i64 x.a, .int .i64 x.h, .int .i64 x.r, .int .u64 x.n, .int .i64 x.lo, .int .i64 x.hi, .int .i64 x.k, .int .i64 x.t, .int .i64 x.c, .int .i64 x.s] 60) = W at *
  refine (halves_any x.n hn _).mono ?_
  rintro e w1 ⟨rfl, hE1⟩
  have hB1 := hB.ext hE1
  replace hE1 := hE0.trans hE1
  clear hE0 hB
  have hH := World.alloc_heap_new w1 (.cells #[.int .i64 (x.n / 4294967296), .int .i64 (x.n % 4294967296)] 112)
  have hE2 := hE1.alloc (.cells #[.int .i64 (x.n / 4294967296), .int .i64 (x.n % 4294967296)] 112)
  have hB2 := hB1.ext ((Ext.refl w1).alloc (.cells #[.int .i64 (x.n / 4294967296), .int .i64 (x.n % 4294967296)] 112))
  have d10 := cell_of_block hH 0 _ rfl
  have d11 := cell_of_block hH 1 _ rfl
  obtain ⟨d0, d1, d2, d3, d4, d5, d6, d7, d8, d9⟩ := hB2.cells
  clear hE1 hB1 hB2 hH
  go_wp2_with fail
  have hsz : (w1.alloc (.cells #[.int .i64 (x.n / 4294967296), .int .i64 (x.n % 4294967296)] 112)).heap.size = w1.heap.size + 1 := by simp
  generalize w1.alloc (.cells #[.int .i64 (x.n / 4294967296), .int .i64 (x.n % 4294967296)] 112) = w2 at *
  refine (dints_any _ 11 11 (digL x) _ (litSl .i64 3 w2 _ 11 (digL x) #[.int .i64 x.a, .int .i64 x.h, .int .i64 x.r, .int .i64 (x.n / 4294967296), .int .i64 (x.n % 4294967296), .int .i64 x.lo, .int .i64 x.hi, .int .i64 x.k, .int .i64 x.t, .int .i64 x.c, .int .i64 x.s] hsz rfl rfl (by simp [maxLen, digL]) hL.out) (by omega) (TB.ext HT.out (hE2.alloc _))).mono ?_
  rintro e w3 ⟨rfl, hE3⟩
  replace hE3 := (hE2.alloc _).trans hE3
  clear d0 d1 d2 d3 d4 d5 d6 d7 d8 d9 d10 d11
  go_wp2_with fail
  go_ret
  exact ⟨rfl, hE3⟩

end Go.Proofs.YtdmfdimhjemngaaGreatDoor

/-
  The reference's digest of a reply; the head behind a round, by both; walked.
-/
namespace Go.Proofs.YtdmfdimhjemngaaGreatDoor
open Go.RowKit Go.Sort Go.Shelf
set_option linter.unusedSimpArgs false
set_option linter.unusedVariables false
set_option maxRecDepth 100000

set_option maxHeartbeats 1000000 in
theorem rdig_any (x : Rp) (hx : x.Ok) (w : World) : Calls Tryz.prog 72 #[x.val] w fun e w' => e = .returned (.int .u64 (digR x)) ∧ Ext w w' := by
  have hn := wf_u64 hx.n
  have hL := Lib.hid hx.digL
  clear hx
  unfold digR
  unfold Rp.val
  go_enter Tryz.func72, Tryz.ntmps72
  have hB := RpB.new w x
  have hE0 : Ext w _ := (Ext.refl w).alloc (.cells #[.int .i64 x.a, .int .i64 x.h, .int .i64 x.r, .int .u64 x.n, .int .i64 x.lo, .int .i64 x.hi, .int .i64 x.k, .int .i64 x.t, .int .i64 x.c, .int .i64 x.s] 60)
  go_upto_region 1 with fail
  generalize w.alloc (.cells #[.int .i64 x.a, .int .i64 x.h, .int .i64 x.r, .int .u64 x.n, .int .i64 x.lo, .int .i64 x.hi, .int .i64 x.k, .int .i64 x.t, .int .i64 x.c, .int .i64 x.s] 60) = V at *
  generalize w.heap.size = b0 at *
  obtain ⟨d0, d1, d2, d3, d4, d5, d6, d7, d8, d9⟩ := hB.cells
  have ho0 := OwI.lit .i64 3 (base := V.heap.size) V [x.a, x.h, x.r] (Nat.le_refl _) (by unfold maxLen; simp) #[.int .i64 x.a, .int .i64 x.h, .int .i64 x.r] rfl
  simp only [List.length_cons, List.length_nil, Nat.zero_add, Nat.reduceAdd] at ho0
  have hlt := lt_of_block hB
  have hE1 : Ext V (V.alloc (.cells #[.int .i64 x.a, .int .i64 x.h, .int .i64 x.r] 3)) := (Ext.refl V).alloc _
  go_wp2_with fail
  generalize V.alloc (.cells #[.int .i64 x.a, .int .i64 x.h, .int .i64 x.r] 3) = W at *
  refine (rhalves_any x.n hn _).mono ?_
  rintro e w' ⟨rfl, rfl⟩
  have hlit := OwI.lit .i64 3 (base := W.heap.size) W [x.n / 4294967296, x.n % 4294967296] (Nat.le_refl _) (by unfold maxLen; simp) #[.int .i64 (x.n / 4294967296), .int .i64 (x.n % 4294967296)] rfl |>.sl (hv_wf hn)
  simp only [List.length_cons, List.length_nil, Nat.zero_add, Nat.reduceAdd] at hlit
  have hE2 : Ext W (W.alloc (.cells #[.int .i64 (x.n / 4294967296), .int .i64 (x.n % 4294967296)] 3)) := (Ext.refl W).alloc _
  have ho1 := ho0.ext hE2
  replace hE2 := hE1.trans hE2
  have hz2 := hE2.sz
  clear d0 d1 d2 d3 d4 d5 d6 d7 d8 d9 ho0 hE1
  go_wp2_with (at_builtin; refine appS el_i64 rfl _ _ rfl _ V.heap.size _ _ _ _ rfl ho1 _ _ _ _ rfl hlit (by omega) hz2 (by unfold maxLen; simp) (by simp) ?_; intro g3 c3 w3 ho3 hB3; refine hold ?_)
  refine held ?_
  have hE3 : Ext V w3 := Below.trans hE2 hB3
  obtain ⟨d0, d1, d2, d3, d4, d5, d6, d7, d8, d9⟩ := (hB.ext hE3).cells
  have hlit2 := litSl .i64 3 w3 _ 6 [x.lo, x.hi, x.k, x.t, x.c, x.s] #[.int .i64 x.lo, .int .i64 x.hi, .int .i64 x.k, .int .i64 x.t, .int .i64 x.c, .int .i64 x.s] rfl rfl rfl (by simp [maxLen]) (fun y hy => hL.out y (List.mem_of_mem_drop (i := 5) (show y ∈ (digL x).drop 5 from hy)))
  have hE4 : Ext w3 (w3.alloc (.cells #[.int .i64 x.lo, .int .i64 x.hi, .int .i64 x.k, .int .i64 x.t, .int .i64 x.c, .int .i64 x.s] 3)) := (Ext.refl w3).alloc _
  have ho4 := ho3.ext hE4
  replace hE4 := hE3.trans hE4
  have hz4 := hE4.sz
  clear hlit ho1 hE2 hz2 hB3 ho3 hE3
  simp only [Nat.reduceAdd, List.cons_append, List.nil_append] at ho4
  go_wp2_with (at_builtin; refine appS el_i64 rfl _ _ rfl _ V.heap.size _ _ _ _ rfl ho4 _ _ _ _ rfl hlit2 (by omega) hz4 (by unfold maxLen; simp) (by simp) ?_; intro g5 c5 w5 ho5 hB5; refine hold ?_)
  refine held ?_
  have hE5 : Ext w w5 := hE0.trans (Below.trans hE4 hB5)
  simp only [Nat.reduceAdd, List.cons_append, List.nil_append] at ho5
  have hs5 := ho5.sl hL.out
  clear d0 d1 d2 d3 d4 d5 d6 d7 d8 d9 hlit2 hE4 ho4 hz4 hB5 ho5
  go_wp2_with fail
  refine (rints_any _ _ _ _ w5 hs5 (by omega)).mono ?_
  rintro e w6 ⟨rfl, hE6⟩
  go_wp2_with fail
  go_ret
  exact ⟨rfl, hE5.trans hE6⟩
end Go.Proofs.YtdmfdimhjemngaaGreatDoor

/-
  The head behind a round, by both; walked.
-/
namespace Go.Proofs.YtdmfdimhjemngaaGreatDoor
open Go.RowKit Go.Sort Go.Shelf
set_option linter.unusedSimpArgs false
set_option linter.unusedVariables false
set_option maxRecDepth 100000

/-- The cells of a reply that lies in a slice. -/
theorem cells_rp {W : World} {b o : Nat} {x : Rp} (h : W.rangeAt b o (Cel.enc x)) : W.cell? ⟨b, o, none⟩ = some (.int .i64 x.a) ∧ W.cell? ⟨b, o + 1, none⟩ = some (.int .i64 x.h) ∧ W.cell? ⟨b, o + 2, none⟩ = some (.int .i64 x.r) ∧ W.cell? ⟨b, o + 3, none⟩ = some (.int .u64 x.n) ∧
    W.cell? ⟨b, o + 4, none⟩ = some (.int .i64 x.lo) ∧ W.cell? ⟨b, o + 5, none⟩ = some (.int .i64 x.hi) ∧ W.cell? ⟨b, o + 6, none⟩ = some (.int .i64 x.k) ∧ W.cell? ⟨b, o + 7, none⟩ = some (.int .i64 x.t) ∧ W.cell? ⟨b, o + 8, none⟩ = some (.int .i64 x.c) ∧ W.cell? ⟨b, o + 9, none⟩ = some (.int .i64 x.s) :=
  ⟨h 0 _ rfl, h 1 _ rfl, h 2 _ rfl, h 3 _ rfl, h 4 _ rfl, h 5 _ rfl, h 6 _ rfl, h 7 _ rfl, h 8 _ rfl, h 9 _ rfl⟩

set_option maxHeartbeats 1000000 in
theorem behind_any (h : Int) (hh : 0 ≤ h ∧ h ≤ 18446744073709551615) (a : Option Addr) (n c : Nat) (xs : List Rp) (w : World) (h1 : Rw w a n c xs) (hs : n ≤ 400) (ht : TB w) :
    Calls Tryz.prog 46 #[.int .u64 h, .agg #[.slice a n c]] w fun e w' => e = .returned (.int .u64 (beh h xs)) ∧ Ext w w' := by
  have b1 := h1.bd
  have HT := Lib.hid ht
  have HL := Lib.hid h1.hlen
  clear ht
  unfold beh behL
  rw [HL.out]
  have ho0 := OwI.lit .i64 3 (base := w.heap.size + 1) (w.alloc (.cells #[.slice a n c] 45)) [(n : Int)] (by simp) (by unfold maxLen; simp) #[.int .i64 (n : Int)] rfl
  have hE0 : Ext w ((w.alloc (.cells #[.slice a n c] 45)).alloc (.cells #[.int .i64 (n : Int)] 3)) := ((Ext.refl w).alloc _).alloc _
  simp only [List.length_cons, List.length_nil, Nat.zero_add, Nat.reduceAdd, World.size_alloc] at ho0
  go_enter Tryz.func46, Tryz.ntmps46
  go_wp2_with fail
  go_loopw [5, 16] (fun l i wr => ∃ (k m c' : Nat) (a' : Option Addr), k ≤ n ∧ i = .int .i64 k ∧ l = .slice a' m c' ∧ m = 1 + 2 * k ∧ OwI .i64 3 (w.heap.size + 1) wr a' m c' ((n : Int) :: behM (xs.take k)) ∧ Ext w wr ∧ w.heap.size + 1 ≤ wr.heap.size) (fun _ i _ => n - (intOf i).toNat)
  case atStart => exact ⟨0, 1, 1, _, by omega, rfl, rfl, by omega, by simpa [behM] using ho0, hE0, by simp⟩
  case round =>
    obtain ⟨k, m, c', a', hk, rfl, rfl, hm, ho, hE, hz0⟩ := hrel
    have HM := Lib.hid hm
    have hz := hE.sz
    clear hm
    by_cases hlt : k < n
    · obtain ⟨x1, o1, rfl, hc1⟩ := h1.at (by omega)
      have hr := rangeAt_ext (hc1 k hlt) hE
      have hx := h1.wfAt hlt
      have hbm := behM_take (xs := xs) (k := k) (by rw [HL.out]; exact hlt)
      have HBM := Lib.hid hbm
      have hm2 : m ≤ 801 := by have := HM.out; omega
      rw [sz_rp] at hr
      clear hbm hc1
      generalize nthR xs k = x at *
      obtain ⟨d0, d1, d2, d3, d4, d5, d6, d7, d8, d9⟩ := cells_rp hr
      clear hr
      go_upto_region 5 with fail
      have hB := RpB.new wr x
      clear d0 d1 d2 d3 d4 d5 d6 d7 d8 d9
      have hE1 : Ext wr (wr.alloc (.cells #[.int .i64 x.a, .int .i64 x.h, .int .i64 x.r, .int .u64 x.n, .int .i64 x.lo, .int .i64 x.hi, .int .i64 x.k, .int .i64 x.t, .int .i64 x.c, .int .i64 x.s] 60)) := (Ext.refl wr).alloc _
      generalize wr.alloc (.cells #[.int .i64 x.a, .int .i64 x.h, .int .i64 x.r, .int .u64 x.n, .int .i64 x.lo, .int .i64 x.hi, .int .i64 x.k, .int .i64 x.t, .int .i64 x.c, .int .i64 x.s] 60) = V at *
      obtain ⟨d0, d1, d2, d3, d4, d5, d6, d7, d8, d9⟩ := hB.cells
      go_wp2_with fail
      refine (dig_any x hx V (TB.ext HT.out (hE.trans hE1))).mono ?_
      rintro e w1 ⟨rfl, hE2⟩
      replace hE2 := hE1.trans hE2
      clear hE1 d0 d1 d2 d3 d4 d5 d6 d7 d8 d9 hB
      have hdr := digR_rng x
      generalize digR x = D at *
      go_wp2_with fail
      refine (halves_any D hdr _).mono ?_
      rintro e w2 ⟨rfl, hE3⟩
      replace hE3 := hE2.trans hE3
      clear hE2
      have hlit := litSl .i64 112 w2 _ 2 [D / 4294967296, D % 4294967296] #[.int .i64 (D / 4294967296), .int .i64 (D % 4294967296)] rfl rfl rfl (by simp [maxLen]) (hv_wf hdr)
      have hE4 : Ext wr (w2.alloc (.cells #[.int .i64 (D / 4294967296), .int .i64 (D % 4294967296)] 112)) := hE3.alloc _
      have ho4 := ho.ext hE4
      have hz4 := hE4.sz
      go_wp2_with (at_builtin; refine appS el_i64 rfl _ _ rfl _ (w.heap.size + 1) _ _ _ _ rfl ho4 _ _ _ _ rfl hlit (by omega) (by omega) (by unfold maxLen; omega) (by omega) ?_; intro g5 c5 w5 ho5 hB5; refine hold ?_)
      refine held ?_
      have hE5 : Ext w w5 := Below.trans (Ext.trans hE hE4) (Below.mono hB5 (by omega))
      have hz5 : wr.heap.size ≤ w5.heap.size := Nat.le_trans hz4 hB5.size
      clear hE3 hlit hE4 ho4 hz4 hB5
      go_wp2_with fail
      refine ⟨⟨k + 1, m + 2, c5, _, by omega, by go_num, rfl, by rw [HM.out]; omega, ?_, hE5, Nat.le_trans (by omega) hz5⟩, by simp [intOf]; omega⟩
      rw [HBM.out]
      exact ho5
    · obtain rfl : k = n := by omega
      have hm2 : m ≤ 801 := by have := HM.out; omega
      have ht1 : xs.take k = xs := List.take_of_length_le (Nat.le_of_eq HL.out)
      rw [ht1] at ho
      have hwf := behL_wf (xs := xs) (by rw [HL.out]; omega)
      unfold behL at hwf
      rw [HL.out] at hwf
      have hso := ho.sl hwf
      clear ht1 hwf ho
      go_wp2_with fail
      refine (dnext_any h hh _ _ _ _ wr hso (by omega) (TB.ext HT.out hE)).mono ?_
      rintro e w1 ⟨rfl, hE1⟩
      go_wp2_with fail
      go_ret
      exact ⟨rfl, hE.trans hE1⟩

set_option maxHeartbeats 1000000 in
theorem rbehind_any (h : Int) (hh : 0 ≤ h ∧ h ≤ 18446744073709551615) (a : Option Addr) (n c : Nat) (xs : List Rp) (w : World) (h1 : Rw w a n c xs) (hs : n ≤ 400) :
    Calls Tryz.prog 49 #[.int .u64 h, .agg #[.slice a n c]] w fun e w' => e = .returned (.int .u64 (beh h xs)) ∧ Ext w w' := by
  have b1 := h1.bd
  have HL := Lib.hid h1.hlen
  unfold beh behL
  rw [HL.out]
  have ho0 := OwI.lit .i64 3 (base := w.heap.size + 1) (w.alloc (.cells #[.slice a n c] 45)) [(n : Int)] (by simp) (by unfold maxLen; simp) #[.int .i64 (n : Int)] rfl
  have hE0 : Ext w ((w.alloc (.cells #[.slice a n c] 45)).alloc (.cells #[.int .i64 (n : Int)] 3)) := ((Ext.refl w).alloc _).alloc _
  have hb0 : ((w.alloc (.cells #[.slice a n c] 45)).alloc (.cells #[.int .i64 (n : Int)] 3)).heap[w.heap.size]? = some (.cells #[.slice a n c] 45 (0, 0)) := (((Ext.refl _).alloc _).block _ (by simp)).trans (World.alloc_heap_new w _)
  simp only [List.length_cons, List.length_nil, Nat.zero_add, Nat.reduceAdd, World.size_alloc] at ho0
  go_enter Tryz.func49, Tryz.ntmps49
  go_wp2_with fail
  go_loopw [5, 6] (fun l i wr => ∃ (k m c' : Nat) (a' : Option Addr), k ≤ n ∧ i = .int .i64 k ∧ l = .slice a' m c' ∧ m = 1 + 2 * k ∧ OwI .i64 3 (w.heap.size + 1) wr a' m c' ((n : Int) :: behM (xs.take k)) ∧ Ext w wr ∧ wr.heap[w.heap.size]? = some (.cells #[.slice a n c] 45 (0, 0))) (fun _ i _ => n - (intOf i).toNat)
  case atStart => exact ⟨0, 1, 1, _, by omega, rfl, rfl, by omega, by simpa [behM] using ho0, hE0, hb0⟩
  case round =>
    obtain ⟨k, m, c', a', hk, rfl, rfl, hm, ho, hE, hb⟩ := hrel
    have HM := Lib.hid hm
    have HB := Lib.hid hb
    have hz := hE.sz
    have hcb := cell_of_block hb 0 _ rfl
    have hlb := lt_of_block hb
    have hz0 : w.heap.size + 1 ≤ wr.heap.size := hlb
    clear hm hb
    by_cases hlt : k < n
    · obtain ⟨x1, o1, rfl, hc1⟩ := h1.at (by omega)
      have hr := rangeAt_ext (hc1 k hlt) hE
      have hx := h1.wfAt hlt
      have hbm := behM_take (xs := xs) (k := k) (by rw [HL.out]; exact hlt)
      have HBM := Lib.hid hbm
      have hm2 : m ≤ 801 := by have := HM.out; omega
      rw [sz_rp] at hr
      clear hbm hc1
      generalize nthR xs k = x at *
      obtain ⟨d0, d1, d2, d3, d4, d5, d6, d7, d8, d9⟩ := cells_rp hr
      clear hr
      go_wp2_with fail
      refine (rdig_any x hx wr).mono ?_
      rintro e w1 ⟨rfl, hE2⟩
      clear d0 d1 d2 d3 d4 d5 d6 d7 d8 d9
      have hdr := digR_rng x
      generalize digR x = D at *
      go_wp2_with fail
      refine (rhalves_any D hdr _).mono ?_
      rintro e w' ⟨rfl, rfl⟩
      have hlit := litSl .i64 3 w1 _ 2 [D / 4294967296, D % 4294967296] #[.int .i64 (D / 4294967296), .int .i64 (D % 4294967296)] rfl rfl rfl (by simp [maxLen]) (hv_wf hdr)
      have hE4 : Ext wr (w1.alloc (.cells #[.int .i64 (D / 4294967296), .int .i64 (D % 4294967296)] 3)) := hE2.alloc _
      have ho4 := ho.ext hE4
      have hz4 := hE4.sz
      go_wp2_with (at_builtin; refine appS el_i64 rfl _ _ rfl _ (w.heap.size + 1) _ _ _ _ rfl ho4 _ _ _ _ rfl hlit (by omega) (by omega) (by unfold maxLen; omega) (by omega) ?_; intro g5 c5 w5 ho5 hB5; refine hold ?_)
      refine held ?_
      have hE5 : Ext w w5 := Below.trans (Ext.trans hE hE4) (Below.mono hB5 (by omega))
      have hb5 := (Below.block hB5 w.heap.size (by omega)).trans ((hE4.block _ hlb).trans HB.out)
      clear hE2 hlit hE4 ho4 hz4 hB5
      go_wp2_with fail
      refine ⟨⟨k + 1, m + 2, c5, _, by omega, by go_num, rfl, by rw [HM.out]; omega, ?_, hE5, hb5⟩, by simp [intOf]; omega⟩
      rw [HBM.out]
      exact ho5
    · obtain rfl : k = n := by omega
      have hm2 : m ≤ 801 := by have := HM.out; omega
      have ht1 : xs.take k = xs := List.take_of_length_le (Nat.le_of_eq HL.out)
      rw [ht1] at ho
      have hwf := behL_wf (xs := xs) (by rw [HL.out]; omega)
      unfold behL at hwf
      rw [HL.out] at hwf
      have hso := ho.sl hwf
      clear ht1 hwf ho
      go_wp2_with fail
      refine (rnext_any h hh _ _ _ _ wr hso (by omega)).mono ?_
      rintro e w1 ⟨rfl, hE1⟩
      go_wp2_with fail
      go_ret
      exact ⟨rfl, hE.trans hE1⟩
end Go.Proofs.YtdmfdimhjemngaaGreatDoor

/-
  Nonces, by both; the reference's head; walked.
-/
namespace Go.Proofs.YtdmfdimhjemngaaGreatDoor
open Go.RowKit Go.Sort Go.Shelf
set_option linter.unusedSimpArgs false
set_option linter.unusedVariables false
set_option maxRecDepth 100000

theorem three_wf {a b c : Int} (ha : (Lit.int .i64 a).wf = true) (hb : (Lit.int .i64 b).wf = true) (hc : (Lit.int .i64 c).wf = true) : ∀ x ∈ [a, b, c], (Lit.int .i64 x).wf = true := by
  intro x hx
  simp only [List.mem_cons, List.not_mem_nil, or_false] at hx
  rcases hx with rfl | rfl | rfl
  · exact ha
  · exact hb
  · exact hc

theorem nonce_any (h a b c : Int) (hh : 0 ≤ h ∧ h ≤ 18446744073709551615) (ha : (Lit.int .i64 a).wf = true) (hb : (Lit.int .i64 b).wf = true) (hc : (Lit.int .i64 c).wf = true) (w : World) (ht : TB w) :
    Calls Tryz.prog 50 #[.int .u64 h, .int .i64 a, .int .i64 b, .int .i64 c] w fun e w' => e = .returned (.int .u64 (nonF h a b c)) ∧ Ext w w' := by
  have HT := Lib.hid ht
  have HW := Lib.hid (three_wf ha hb hc)
  clear ht ha hb hc
  unfold nonF
  have hE0 : Ext w (w.alloc (.cells #[.int .i64 a, .int .i64 b, .int .i64 c] 3)) := (Ext.refl w).alloc _
  go_enter Tryz.func50, Tryz.ntmps50
  go_wp2_with fail
  refine (dnext_any h hh _ 3 3 [a, b, c] _ (litSl .i64 3 w _ 3 [a, b, c] #[.int .i64 a, .int .i64 b, .int .i64 c] rfl rfl rfl (by simp [maxLen]) HW.out) (by omega) (TB.ext HT.out hE0)).mono ?_
  rintro e w1 ⟨rfl, hE1⟩
  go_wp2_with fail
  go_ret
  exact ⟨rfl, hE0.trans hE1⟩

theorem rnonce_any (h a b c : Int) (hh : 0 ≤ h ∧ h ≤ 18446744073709551615) (ha : (Lit.int .i64 a).wf = true) (hb : (Lit.int .i64 b).wf = true) (hc : (Lit.int .i64 c).wf = true) (w : World) :
    Calls Tryz.prog 18 #[.int .u64 h, .int .i64 a, .int .i64 b, .int .i64 c] w fun e w' => e = .returned (.int .u64 (nonF h a b c)) ∧ Ext w w' := by
  have HW := Lib.hid (three_wf ha hb hc)
  clear ha hb hc
  unfold nonF
  have hE0 : Ext w (w.alloc (.cells #[.int .i64 a, .int .i64 b, .int .i64 c] 3)) := (Ext.refl w).alloc _
  go_enter Tryz.func18, Tryz.ntmps18
  go_wp2_with fail
  refine (rnext_any h hh _ 3 3 [a, b, c] _ (litSl .i64 3 w _ 3 [a, b, c] #[.int .i64 a, .int .i64 b, .int .i64 c] rfl rfl rfl (by simp [maxLen]) HW.out) (by omega)).mono ?_
  rintro e w1 ⟨rfl, hE1⟩
  go_wp2_with fail
  go_ret
  exact ⟨rfl, hE0.trans hE1⟩

/-- Rounds that are not too long for the digest. -/
def Short (rs : List (List Rp)) : Prop := ∀ r ∈ rs, r.length ≤ 400
theorem Short.at {rs : List (List Rp)} (h : Short rs) {k : Nat} (hk : k < rs.length) : (nthS rs k).length ≤ 400 := h _ (nthS_mem hk)
theorem Short.take {rs : List (List Rp)} (h : Short rs) (k : Nat) : Short (rs.take k) := fun r hr => h r (List.mem_of_mem_take hr)

theorem rheadf_any (a : Option Addr) (n c : Nat) (rs : List (List Rp)) (w : World) (h1 : Rws w a n c rs) (hs : Short rs) :
    Calls Tryz.prog 29 #[.slice a n c] w fun e w' => e = .returned (.int .u64 (headF rs)) ∧ Ext w w' := by
  have b1 := h1.bd
  have HL := Lib.hid h1.hlen
  have HS := Lib.hid hs
  clear hs
  go_enter Tryz.func29, Tryz.ntmps29
  go_wp2_with fail
  go_loopw [3, 4] (fun h i wr => ∃ k : Nat, k ≤ n ∧ i = .int .i64 k ∧ h = .int .u64 (headF (rs.take k)) ∧ Ext w wr) (fun _ i _ => n - (intOf i).toNat)
  case atStart => exact ⟨0, by omega, rfl, rfl, Ext.refl w⟩
  case round =>
    obtain ⟨k, hk, rfl, rfl, hE⟩ := hrel
    by_cases hlt : k < n
    · obtain ⟨x1, o1, rfl, hc1⟩ := h1.at (by omega)
      obtain ⟨a', n', c', hc, hr⟩ := hc1 k hlt
      have hcc := hE.cell hc
      have hl := HS.out.at (k := k) (by rw [HL.out]; exact hlt)
      rw [hr.hlen] at hl
      have hht := Lib.hid (headF_take (rs := rs) (k := k) (by rw [HL.out]; exact hlt))
      have hrng := headF_rng (rs.take k)
      clear hc1 hc
      go_wp2_with fail
      refine (rbehind_any _ hrng a' n' c' _ wr (hr.ext hE) hl).mono ?_
      rintro e w1 ⟨rfl, hE1⟩
      go_wp2_with fail
      go_roundw
      case rel => exact ⟨k + 1, by omega, by go_num, by rw [hht.out], hE.trans hE1⟩
      case measure => simp [intOf]; omega
    · obtain rfl : k = n := by omega
      have ht1 := Lib.hid (List.take_of_length_le (Nat.le_of_eq HL.out) : rs.take k = rs)
      go_wp2_with fail
      go_ret
      exact ⟨by rw [ht1.out]; rfl, hE⟩
end Go.Proofs.YtdmfdimhjemngaaGreatDoor
