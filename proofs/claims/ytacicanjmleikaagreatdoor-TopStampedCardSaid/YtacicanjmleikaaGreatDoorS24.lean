
import Derived.Test.YtacicanjmleikaaGreatDoorS23
/- A part of the proof. -/
namespace Go.Proofs.YtacicanjmleikaaGreatDoor
open Go.RowKit Go.Sort Go.Shelf Go.Maps
set_option linter.unusedSimpArgs false
set_option linter.unusedVariables false
set_option maxRecDepth 100000
structure Lg where
 do_ : Nat
 who : Nat
 which : Nat
 wait : Nat
 left : Nat
 right : Nat
 doc : Nat
structure Lg.Ok (x : Lg) : Prop where
 do_ : x.do_ ≤ 255
 who : x.who ≤ 255
 which : x.which ≤ 255
 wait : x.wait ≤ 65535
 left : x.left ≤ 65535
 right : x.right ≤ 65535
 doc : x.doc ≤ 4294967295
structure Ps where
 now : Int
 lg : Nat → List En
 tm : Nat → List Int
 hs : List Hd
 st : List Int
def secK (key k : Nat) : Nat := 1 + (key + k) % 18446744073709551616 % 1073741788
theorem secK_ok (key k : Nat) : Sec (secK key k) := ⟨by unfold secK; omega, by unfold secK; omega⟩
def updN {α : Type} (f : Nat → α) (k : Nat) (v : α) : Nat → α := fun j => if j = k then v else f j
theorem updN_same {α : Type} (f : Nat → α) (k : Nat) (v : α) : updN f k v k = v := if_pos rfl
theorem updN_ne {α : Type} (f : Nat → α) {k j : Nat} (v : α) (h : j ≠ k) : updN f k v j = f j := if_neg h
def lastE (es : List En) : En := nthR es (es.length - 1)
def loN (es : List En) (now : Int) (x : Lg) : Int := if es.length = 0 then max 0 (now - x.left) else max (max 0 (now - x.left)) (lastE es).lo
def newE (s : Ps) (x : Lg) : En := ⟨if x.do_ % 4 = 2 then digH (nthR s.hs (x.which % s.hs.length)) else x.doc, loN (s.lg (x.who % 3)) (s.now + 1 + x.wait) x, s.now + 1 + x.wait + x.right⟩
def ps0 : Ps := ⟨0, fun _ => [], fun _ => [], [], []⟩
def stepP (key i : Nat) (s : Ps) (x : Lg) : Ps :=
 let k := x.who % 3
 let now := s.now + 1 + x.wait
 if x.do_ % 4 = 1 then
  if (s.lg k).length = 0 ∨ s.hs.length = 12 then ⟨now, s.lg, s.tm, s.hs, s.st⟩
  else ⟨now, s.lg, s.tm, s.hs ++ [sgHd ((k : Int) + 1) (s.lg k) (s.lg k).length (secK key k) (secK key (50 + i))], s.st ++ [now]⟩
 else if x.do_ % 4 = 2 ∧ s.hs.length = 0 then ⟨now, s.lg, s.tm, s.hs, s.st⟩
 else ⟨now, updN s.lg k (s.lg k ++ [newE s x]), updN s.tm k (s.tm k ++ [now]), s.hs, s.st⟩
def runP (key : Nat) (l : Nat → Lg) : Nat → Ps
 | 0 => ps0
 | n + 1 => stepP key n (runP key l n) (l n)
structure PsOk (key : Nat) (s : Ps) (n : Nat) : Prop where
 now : 0 ≤ s.now ∧ s.now ≤ n * 65536
 len : ∀ k, (s.tm k).length = (s.lg k).length ∧ (s.lg k).length ≤ n
 hlen : s.hs.length ≤ 12 ∧ s.st.length = s.hs.length
 ent : ∀ k x, x < (s.lg k).length → 0 ≤ (nthR (s.lg k) x).lo ∧ (nthR (s.lg k) x).lo ≤ nth (s.tm k) x ∧ nth (s.tm k) x ≤ (nthR (s.lg k) x).hi ∧ (nthR (s.lg k) x).hi ≤ n * 65536 + 65535 ∧ nth (s.tm k) x ≤ s.now
 lo : ∀ k x, x + 1 < (s.lg k).length → (nthR (s.lg k) x).lo ≤ (nthR (s.lg k) (x + 1)).lo
 asc : ∀ k x y, x < y → y < (s.lg k).length → nth (s.tm k) x < nth (s.tm k) y
 head : ∀ m, m < s.hs.length → ∃ k q once : Nat, k < 3 ∧ nthR s.hs m = sgHd ((k : Int) + 1) (s.lg k) q (secK key k) once ∧ Sec once ∧ 1 ≤ q ∧ q ≤ (s.lg k).length ∧ (∀ x, x < q → nth (s.tm k) x < nth s.st m) ∧ nth s.st m ≤ s.now
 doc : ∀ k x, x < (s.lg k).length → (Lit.int .u64 (nthR (s.lg k) x).d).wf = true ∧ ((nthR (s.lg k) x).d < 4294967296 ∨ ∃ m, m < s.hs.length ∧ (nthR (s.lg k) x).d = digH (nthR s.hs m) ∧ nth s.st m < nth (s.tm k) x)
 few : ∀ k, 3 ≤ k → s.lg k = []
theorem ps0_ok (key : Nat) : PsOk key ps0 0 :=
 ⟨by show (0 : Int) ≤ 0 ∧ (0 : Int) ≤ _; omega, fun k => ⟨rfl, Nat.le_refl _⟩, by decide, fun k x h => absurd h (Nat.not_lt_zero _), fun k x h => absurd h (Nat.not_lt_zero _), fun k x y _ h => absurd h (Nat.not_lt_zero _), fun m h => absurd h (Nat.not_lt_zero _), fun k x h => absurd h (Nat.not_lt_zero _), fun _ _ => rfl⟩
theorem nth_l {xs ys : List Int} {i : Nat} (h : i < xs.length) : nth (xs ++ ys) i = nth xs i := by simp [nth, List.getD_eq_getElem?_getD, List.getElem?_append_left h]
theorem nth_e {xs : List Int} {y : Int} {i : Nat} (h : i = xs.length) : nth (xs ++ [y]) i = y := by subst h; simp [nth, List.getD_eq_getElem?_getD]
theorem nthR_e {α : Type} [Cel α] {xs : List α} {y : α} {i : Nat} (h : i = xs.length) : nthR (xs ++ [y]) i = y := by subst h; simp [nthR, List.getD_eq_getElem?_getD]
theorem sgHd_grow {id : Int} {es : List En} {e : En} {q key once : Nat} (h : q ≤ es.length) : sgHd id (es ++ [e]) q key once = sgHd id es q key once := by
 unfold sgHd
 rw [List.take_append_of_le_length h]
theorem PsOk.wait {key : Nat} {s : Ps} {n : Nat} (H : PsOk key s n) {t : Int} (h1 : s.now ≤ t) (h2 : t ≤ s.now + 65536) : PsOk key ⟨t, s.lg, s.tm, s.hs, s.st⟩ (n + 1) := by
 have hn := H.now
 refine ⟨?_, fun k => ⟨(H.len k).1, ?_⟩, H.hlen, fun k x hx => ?_, H.lo, H.asc, fun m hm => ?_, H.doc, H.few⟩
 ·show 0 ≤ t ∧ t ≤ ((n + 1 : Nat) : Int) * 65536
  omega
 ·have := (H.len k).2
  show (s.lg k).length ≤ n + 1
  omega
 ·obtain ⟨a1, a2, a3, a4, a5⟩ := H.ent k x hx
  refine ⟨a1, a2, a3, ?_, ?_⟩
  ·show (nthR (s.lg k) x).hi ≤ ((n + 1 : Nat) : Int) * 65536 + 65535
   omega
  ·show nth (s.tm k) x ≤ t
   omega
 ·obtain ⟨k, q, once, b0, b1, b2, b3, b4, b5, b6⟩ := H.head m hm
  refine ⟨k, q, once, b0, b1, b2, b3, b4, b5, ?_⟩
  show nth s.st m ≤ t
  omega
theorem PsOk.sign {key : Nat} {s : Ps} {n : Nat} (H : PsOk key s n) {k once : Nat} (hk : k < 3) (ho : Sec once) (h0 : 0 < (s.lg k).length) (h12 : s.hs.length ≠ 12) {t : Int} (h1 : s.now < t) (h2 : t ≤ s.now + 65536) :
  PsOk key ⟨t, s.lg, s.tm, s.hs ++ [sgHd ((k : Int) + 1) (s.lg k) (s.lg k).length (secK key k) once], s.st ++ [t]⟩ (n + 1) := by
 have W := H.wait (t := t) (by omega) h2
 have hl := H.hlen
 refine ⟨W.now, W.len, ?_, W.ent, W.lo, W.asc, fun m hm => ?_, fun k' x hx => ?_, W.few⟩
 ·show (s.hs ++ _).length ≤ 12 ∧ (s.st ++ _).length = (s.hs ++ _).length
  simp only [List.length_append, List.length_singleton]
  omega
 ·simp only [List.length_append, List.length_singleton] at hm
  rcases Nat.lt_or_ge m s.hs.length with h | h
  ·obtain ⟨k', q, once', b0, b1, b2, b3, b4, b5, b6⟩ := W.head m h
   refine ⟨k', q, once', b0, ?_, b2, b3, b4, fun x hx => ?_, ?_⟩
   ·show nthR (s.hs ++ _) m = _
    rw [nthR_app_left h]; exact b1
   ·show _ < nth (s.st ++ _) m
    rw [nth_l (by omega)]; exact b5 x hx
   ·show nth (s.st ++ _) m ≤ t
    rw [nth_l (by omega)]; exact b6
  ·have hme : m = s.hs.length := by omega
   refine ⟨k, (s.lg k).length, once, hk, ?_, ho, h0, Nat.le_refl _, fun x hx => ?_, ?_⟩
   ·show nthR (s.hs ++ _) m = _
    rw [nthR_e hme]
   ·show _ < nth (s.st ++ _) m
    rw [nth_e (by omega)]
    have := (H.ent k x hx).2.2.2.2
    show nth (s.tm k) x < t
    omega
   ·show nth (s.st ++ _) m ≤ t
    rw [nth_e (by omega)]
    exact Int.le_refl t
 ·obtain ⟨d1, d2⟩ := W.doc k' x hx
  refine ⟨d1, ?_⟩
  rcases d2 with d2 | ⟨m, e1, e2, e3⟩
  ·exact .inl d2
  ·have e4 : m < s.hs.length := e1
   refine .inr ⟨m, ?_, ?_, ?_⟩
   ·show m < (s.hs ++ _).length
    simp only [List.length_append, List.length_singleton]
    omega
   ·show _ = digH (nthR (s.hs ++ _) m)
    rw [nthR_app_left e4]; exact e2
   ·show nth (s.st ++ _) m < _
    rw [nth_l (by omega)]; exact e3
theorem PsOk.log {key : Nat} {s : Ps} {n : Nat} (H : PsOk key s n) {k : Nat} (hk : k < 3) {t : Int} (h1 : s.now < t) (h2 : t ≤ s.now + 65536) {e : En} (e0 : 0 ≤ e.lo) (e1 : e.lo ≤ t) (e2 : t ≤ e.hi) (e3 : e.hi ≤ t + 65535)
  (e4 : 0 < (s.lg k).length → (lastE (s.lg k)).lo ≤ e.lo) (e5 : (Lit.int .u64 e.d).wf = true) (e6 : e.d < 4294967296 ∨ ∃ m, m < s.hs.length ∧ e.d = digH (nthR s.hs m)) :
  PsOk key ⟨t, updN s.lg k (s.lg k ++ [e]), updN s.tm k (s.tm k ++ [t]), s.hs, s.st⟩ (n + 1) := by
 have W := H.wait (t := t) (by omega) h2
 have hlk := H.len k
 have hn := W.now
 have tl : ∀ j x, x < (s.lg j).length → nth (updN s.tm k (s.tm k ++ [t]) j) x = nth (s.tm j) x := fun j x hx => by
  by_cases hj : j = k
  ·subst hj; rw [updN_same, nth_l (by omega)]
  ·rw [updN_ne _ _ hj]
 have gl : ∀ j x, x < (s.lg j).length → nthR (updN s.lg k (s.lg k ++ [e]) j) x = nthR (s.lg j) x := fun j x hx => by
  by_cases hj : j = k
  ·subst hj; rw [updN_same, nthR_app_left hx]
  ·rw [updN_ne _ _ hj]
 have split : ∀ j x, x < (updN s.lg k (s.lg k ++ [e]) j).length → x < (s.lg j).length ∨ (j = k ∧ x = (s.lg k).length) := fun j x hx => by
  by_cases hj : j = k
  ·subst hj
   rw [updN_same, List.length_append, List.length_singleton] at hx
   omega
  ·rw [updN_ne _ _ hj] at hx; exact .inl hx
 have gE : nthR (updN s.lg k (s.lg k ++ [e]) k) (s.lg k).length = e := by rw [updN_same, nthR_e rfl]
 have tE : nth (updN s.tm k (s.tm k ++ [t]) k) (s.lg k).length = t := by rw [updN_same, nth_e hlk.1.symm]
 refine ⟨hn, fun j => ?_, H.hlen, fun j x hx => ?_, fun j x hx => ?_, fun j x y hxy hy => ?_, fun m hm => ?_, fun j x hx => ?_, fun j hj => ?_⟩
 ·show (updN s.tm k _ j).length = (updN s.lg k _ j).length ∧ (updN s.lg k _ j).length ≤ n + 1
  by_cases hj : j = k
  ·subst hj
   rw [updN_same, updN_same, List.length_append, List.length_append, List.length_singleton, List.length_singleton]
   omega
  ·rw [updN_ne _ _ hj, updN_ne _ _ hj]
   exact W.len j
 ·rcases split j x hx with h | ⟨rfl, rfl⟩
  ·show 0 ≤ (nthR (updN s.lg k _ j) x).lo ∧ (nthR (updN s.lg k _ j) x).lo ≤ nth (updN s.tm k _ j) x ∧ nth (updN s.tm k _ j) x ≤ (nthR (updN s.lg k _ j) x).hi ∧ _ ∧ nth (updN s.tm k _ j) x ≤ t
   rw [gl j x h, tl j x h]
   exact W.ent j x h
  ·show 0 ≤ (nthR (updN s.lg j _ j) _).lo ∧ (nthR (updN s.lg j _ j) _).lo ≤ nth (updN s.tm j _ j) _ ∧ nth (updN s.tm j _ j) _ ≤ (nthR (updN s.lg j _ j) _).hi ∧ (nthR (updN s.lg j _ j) _).hi ≤ ((n + 1 : Nat) : Int) * 65536 + 65535 ∧ nth (updN s.tm j _ j) _ ≤ t
   rw [gE, tE]
   have h9 : t ≤ ((n + 1 : Nat) : Int) * 65536 := hn.2
   omega
 ·show (nthR (updN s.lg k _ j) x).lo ≤ (nthR (updN s.lg k _ j) (x + 1)).lo
  rcases split j (x + 1) hx with h | ⟨rfl, hx2⟩
  ·rw [gl j x (by omega), gl j (x + 1) h]
   exact H.lo j x h
  ·rw [hx2, gE, gl j x (by omega)]
   have h9 := e4 (by omega)
   unfold lastE at h9
   rw [show (s.lg j).length - 1 = x by omega] at h9
   exact h9
 ·show nth (updN s.tm k _ j) x < nth (updN s.tm k _ j) y
  rcases split j y hy with h | ⟨rfl, rfl⟩
  ·rw [tl j x (by omega), tl j y h]
   exact H.asc j x y hxy h
  ·rw [tE, tl j x hxy]
   have := (H.ent j x hxy).2.2.2.2
   omega
 ·obtain ⟨k', q, once', b0, b1, b2, b3, b4, b5, b6⟩ := W.head m hm
  have b4' : q ≤ (s.lg k').length := b4
  refine ⟨k', q, once', b0, ?_, b2, b3, ?_, fun x hx => ?_, b6⟩
  ·show nthR s.hs m = sgHd _ (updN s.lg k _ k') q _ _
   by_cases hj : k' = k
   ·subst hj; rw [updN_same, sgHd_grow b4']; exact b1
   ·rw [updN_ne _ _ hj]; exact b1
  ·show q ≤ (updN s.lg k _ k').length
   by_cases hj : k' = k
   ·subst hj; rw [updN_same, List.length_append]; omega
   ·rw [updN_ne _ _ hj]; exact b4
  ·show nth (updN s.tm k _ k') x < _
   rw [tl k' x (by omega)]
   exact b5 x hx
 ·show (Lit.int .u64 (nthR (updN s.lg k _ j) x).d).wf = true ∧ ((nthR (updN s.lg k _ j) x).d < 4294967296 ∨ ∃ m, m < s.hs.length ∧ (nthR (updN s.lg k _ j) x).d = digH (nthR s.hs m) ∧ nth s.st m < nth (updN s.tm k _ j) x)
  rcases split j x hx with h | ⟨rfl, rfl⟩
  ·rw [gl j x h, tl j x h]
   exact H.doc j x h
  ·rw [gE, tE]
   refine ⟨e5, ?_⟩
   rcases e6 with h | ⟨m, h3, h4⟩
   ·exact .inl h
   ·obtain ⟨_, _, _, _, _, _, _, _, _, b6⟩ := H.head m h3
    exact .inr ⟨m, h3, h4, by omega⟩
 ·show updN s.lg k _ j = []
  rw [updN_ne _ _ (by omega)]
  exact H.few j hj
theorem step_ok {key i : Nat} {s : Ps} {n : Nat} (H : PsOk key s n) {x : Lg} (hx : x.Ok) : PsOk key (stepP key i s x) (n + 1) := by
 have hw := hx.wait
 have hl := hx.left
 have hr := hx.right
 have hd := hx.doc
 have hn := H.now
 have hk : x.who % 3 < 3 := Nat.mod_lt _ (by omega)
 unfold stepP
 simp only
 split
 ·split
  ·exact H.wait (by omega) (by omega)
  ·rename_i h1 h2
   exact H.sign hk (secK_ok _ _) (by omega) (by omega) (by omega) (by omega)
 ·split
  ·exact H.wait (by omega) (by omega)
  ·rename_i h1 h2
   have hlast : 0 < (s.lg (x.who % 3)).length → 0 ≤ (lastE (s.lg (x.who % 3))).lo ∧ (lastE (s.lg (x.who % 3))).lo ≤ s.now := fun h0 => by
    obtain ⟨a1, a2, a3, a4, a5⟩ := H.ent (x.who % 3) ((s.lg (x.who % 3)).length - 1) (by omega)
    unfold lastE
    omega
   refine H.log hk (by omega) (by omega) ?_ ?_ ?_ ?_ (fun h0 => ?_) ?_ ?_
   ·show 0 ≤ loN _ _ _
    unfold loN
    split <;> omega
   ·show loN _ _ _ ≤ _
    unfold loN
    split
    ·omega
    ·have := hlast (by omega); omega
   ·show _ ≤ s.now + 1 + (x.wait : Int) + x.right
    omega
   ·show s.now + 1 + (x.wait : Int) + x.right ≤ _
    omega
   ·show _ ≤ loN _ _ _
    unfold loN
    rw [if_neg (by omega)]
    omega
   ·show (Lit.int .u64 (newE s x).d).wf = true
    unfold newE
    simp only
    split
    ·have := dig_rng (nthR s.hs (x.which % s.hs.length))
     simp [Lit.wf, IntKind.min, IntKind.max, IntKind.bits, IntKind.signed]; omega
    ·simp [Lit.wf, IntKind.min, IntKind.max, IntKind.bits, IntKind.signed]; omega
   ·show (newE s x).d < 4294967296 ∨ ∃ m, m < s.hs.length ∧ (newE s x).d = digH (nthR s.hs m)
    unfold newE
    simp only
    split
    ·rename_i h3
     exact .inr ⟨_, Nat.mod_lt _ (by omega), rfl⟩
    ·exact .inl (by omega)
theorem run_ok (key : Nat) (l : Nat → Lg) (hl : ∀ i, (l i).Ok) : ∀ n, PsOk key (runP key l n) n
 | 0 => ps0_ok key
 | n + 1 => step_ok (run_ok key l hl n) (hl n)
open Go.RowKit Go.Sort Go.Shelf Go.Maps
def lgF (s : Ps) (o : Int) : List En := if 1 ≤ o ∧ o ≤ 3 then s.lg (o - 1).toNat else []
def tmF (s : Ps) (o : Int) (x : Nat) : Int := nth (s.tm (o - 1).toNat) x
def psK (key : Nat) : List Int := [pubO (secK key 0), pubO (secK key 1), pubO (secK key 2)]
theorem psK_keys (key : Nat) : Keys (psK key) := fun x hx => by
 simp only [psK, List.mem_cons, List.not_mem_nil, or_false] at hx
 rcases hx with rfl | rfl | rfl <;> exact pubO_ok (secK_ok _ _)
theorem psK_at (key : Nat) {k : Nat} (hk : k < 3) : nth (psK key) k = pubO (secK key k) := by
 rcases k with _ | _ | _ | k
 ·rfl
 ·rfl
 ·rfl
 ·omega
theorem lgF_at (s : Ps) {k : Nat} (hk : k < 3) : lgF s ((k : Int) + 1) = s.lg k := by
 unfold lgF
 rw [if_pos (by omega), show (((k : Int) + 1 - 1).toNat) = k by omega]
theorem tmF_at (s : Ps) (k : Nat) (x : Nat) : tmF s ((k : Int) + 1) x = nth (s.tm k) x := by
 unfold tmF
 rw [show (((k : Int) + 1 - 1).toNat) = k by omega]
theorem lgF_in {s : Ps} {o : Int} {x : Nat} (h : x < (lgF s o).length) : ∃ k : Nat, k < 3 ∧ o = (k : Int) + 1 := by
 unfold lgF at h
 split at h
 ·exact ⟨(o - 1).toNat, by omega, by omega⟩
 ·simp at h
theorem lgO_F {os : List OfR} {s : Ps} (hid : ∀ j, j < 3 → (nthR os j).id = (j : Int) + 1) : lgO os s.lg 3 = lgF s := by
 funext o
 by_cases ho : 1 ≤ o ∧ o ≤ 3
 ·obtain ⟨k, hk, rfl⟩ : ∃ k : Nat, k < 3 ∧ o = (k : Int) + 1 := ⟨(o - 1).toNat, by omega, by omega⟩
  rw [lgF_at s hk]
  exact lgO_at (fun j hj i hi => by rw [hid i (by omega), hid j hj]; omega) hk (hid k hk)
 ·unfold lgF lgO
  rw [if_neg ho]
  cases h : (List.range 3).find? (fun j => decide ((nthR os j).id = o)) with
  | none => rfl
  | some j =>
   have h1 := List.find?_some h
   have h2 := List.mem_range.1 (List.mem_of_find?_eq_some h)
   simp only [decide_eq_true_eq] at h1
   rw [hid j h2] at h1
   omega
section
variable {key n : Nat} {s : Ps}
theorem PsOk.iv (H : PsOk key s n) (hn : n ≤ 24) (k x : Nat) (hx : x < (s.lg k).length) : ivOk (nthR (s.lg k) x).lo (nthR (s.lg k) x).hi = true := by
 obtain ⟨a1, a2, a3, a4, a5⟩ := H.ent k x hx
 unfold ivOk
 rw [decide_eq_true a1, decide_eq_true (by omega), decide_eq_true (by omega)]
 rfl
theorem PsOk.eok (H : PsOk key s n) (hn : n ≤ 24) (k x : Nat) (hx : x < (s.lg k).length) : (nthR (s.lg k) x).Ok := by
 obtain ⟨a1, a2, a3, a4, a5⟩ := H.ent k x hx
 exact ⟨(H.doc k x hx).1, by simp [Lit.wf, IntKind.min, IntKind.max, IntKind.bits, IntKind.signed]; omega, by simp [Lit.wf, IntKind.min, IntKind.max, IntKind.bits, IntKind.signed]; omega⟩
theorem PsOk.off (H : PsOk key s n) (hn : n ≤ 24) {k : Nat} (hk : k < 3) : offB ((k : Int) + 1) (s.lg k) = true := by
 refine offB_iff.2 ⟨by omega, by have := (H.len k).2; omega, ?_⟩
 unfold stepsO
 rw [List.all_eq_true]
 intro x hx
 have hx2 := List.mem_range.1 hx
 unfold stepO
 rw [H.iv hn k x hx2, Bool.true_and, Bool.or_eq_true, decide_eq_true_eq, decide_eq_true_eq]
 rcases Nat.eq_zero_or_pos x with h | h
 ·exact .inl h
 ·right
  have := H.lo k (x - 1) (by omega)
  rw [show x - 1 + 1 = x by omega] at this
  exact this
theorem PsOk.logOk (H : PsOk key s n) (hn : n ≤ 24) {h : Hd} (hh : h ∈ s.hs) : LogOk (lgF s) (psK key) h := by
 obtain ⟨m, hm, rfl⟩ := List.mem_iff_getElem.1 hh
 rw [← nthR_get hm]
 obtain ⟨k, q, once, b0, b1, b2, b3, b4, b5, b6⟩ := H.head m hm
 have hl := (H.len k).2
 rw [b1]
 have e : lgF s (sgHd ((k : Int) + 1) (s.lg k) q (secK key k) once).o = s.lg k := lgF_at s b0
 have hok : (sgHd ((k : Int) + 1) (s.lg k) q (secK key k) once).Ok := sg_ok (by omega) b3 (by omega) (secK_ok key k) b2
 refine ⟨⟨hok, ?_, ?_⟩, ?_, ?_, ?_, ?_⟩
 ·show ((k : Int) + 1) ≤ ((3 : Nat) : Int)
  omega
 ·show rightH (nth (psK key) (((k : Int) + 1).toNat - 1)) _ = true
  rw [show ((k : Int) + 1).toNat - 1 = k by omega, psK_at key b0]
  exact sg_right _ _ _ (secK_ok key k) b2
 ·rw [e]
  show ((q : Int)).toNat ≤ _
  rw [Int.toNat_natCast]; exact b4
 ·rw [e]; omega
 ·rw [e]
  show rootT (vals ((s.lg k).take ((q : Int)).toNat)) = rootT (vals ((s.lg k).take q))
  rw [Int.toNat_natCast]
 ·rw [e]
  exact fun x hx => ⟨H.eok hn k x hx, H.iv hn k x hx⟩
theorem PsOk.past (H : PsOk key s n) : PastT (lgF s) (tmF s) s.hs (nth s.st) := by
 refine ⟨fun o x hx => ?_, fun o x y hxy hy => ?_, fun m hm => ?_, fun m hm x hx => ?_, fun o x hx => ?_⟩
 ·obtain ⟨k, hk, rfl⟩ := lgF_in hx
  rw [lgF_at s hk] at hx ⊢
  rw [tmF_at]
  obtain ⟨a1, a2, a3, a4, a5⟩ := H.ent k x hx
  exact ⟨a2, a3⟩
 ·obtain ⟨k, hk, rfl⟩ := lgF_in hy
  rw [lgF_at s hk] at hy
  rw [tmF_at, tmF_at]
  exact H.asc k x y hxy hy
 ·obtain ⟨k, q, once, b0, b1, b2, b3, b4, b5, b6⟩ := H.head m hm
  rw [b1]
  have e : lgF s (sgHd ((k : Int) + 1) (s.lg k) q (secK key k) once).o = s.lg k := lgF_at s b0
  rw [e]
  show 0 ≤ (q : Int) ∧ (q : Int) ≤ _
  omega
 ·obtain ⟨k, q, once, b0, b1, b2, b3, b4, b5, b6⟩ := H.head m hm
  rw [b1] at hx ⊢
  have hx2 : (x : Int) < (q : Int) := hx
  show tmF s ((k : Int) + 1) x < _
  rw [tmF_at]
  exact b5 x (by omega)
 ·obtain ⟨k, hk, rfl⟩ := lgF_in hx
  rw [lgF_at s hk] at hx ⊢
  rcases (H.doc k x hx).2 with h | ⟨m, h1, h2, h3⟩
  ·exact .inl h
  ·exact .inr ⟨m, h1, h2, by rw [tmF_at]; exact h3⟩
theorem PsOk.held (H : PsOk key s n) {os : List OfR} (hid : ∀ j, j < 3 → (nthR os j).id = (j : Int) + 1) (hln : ∀ j, j < 3 → (nthR os j).n = (s.lg j).length) {m : Nat} (hm : m < s.hs.length) : Held os s.lg 3 (nthR s.hs m) := by
 obtain ⟨k, q, once, b0, b1, b2, b3, b4, b5, b6⟩ := H.head m hm
 rw [b1]
 exact ⟨k, b0, hid k b0, q, rfl, by rw [hln k b0]; exact b4, rfl⟩
end
end Go.Proofs.YtacicanjmleikaaGreatDoor
