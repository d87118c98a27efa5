/-
  CivilText: the plain part: what Text writes, Parse reads; what Parse reads, Text writes; texts come in the order of the times.
-/
import Derived.Test.YtchbeheekahhiaaDoorVQ
import Derived.Laws.BytesArg
namespace Go.Proofs.YtchbeheekahhiaaDoor
open Go.RowKit Go.Sort Go.Shelf
set_option linter.unusedSimpArgs false
set_option linter.unusedVariables false
set_option maxRecDepth 100000

/-- The last k digits of a number, as bytes. -/
def digU : Nat → Nat → List UInt8
  | 0, _ => []
  | k + 1, n => digU k (n / 10) ++ [UInt8.ofNat (48 + n % 10)]
def bytesOf (xs : List Int) : List UInt8 := xs.map fun n => UInt8.ofNat n.toNat
theorem strOfNums_mkS (xs : List Int) : strOfNums xs = mkS (bytesOf xs) := rfl
theorem bytesOf_app (a b : List Int) : bytesOf (a ++ b) = bytesOf a ++ bytesOf b := by simp [bytesOf]
theorem bytesOf_dgs : ∀ k n, bytesOf (dgs k n) = digU k n
  | 0, _ => rfl
  | k + 1, n => by
    simp only [dgs, digU]
    rw [bytesOf_app, bytesOf_dgs k]
    refine congrArg (digU k (n / 10) ++ ·) ?_
    simp only [bytesOf, List.map_cons, List.map_nil]
    refine congrArg (fun z => [UInt8.ofNat z]) ?_
    omega
theorem digU_len : ∀ k n, (digU k n).length = k
  | 0, _ => rfl
  | k + 1, n => by simp [digU, digU_len k]

/-! ### Order, byte by byte -/
theorem bl_irr : ∀ a : List UInt8, Op.bytesLess a a = false
  | [] => rfl
  | c :: a => by simp [Op.bytesLess, bl_irr a]
theorem bl_app : ∀ {a b x y : List UInt8}, a.length = b.length → Op.bytesLess (a ++ x) (b ++ y) = (Op.bytesLess a b || (a == b && Op.bytesLess x y))
  | [], [], x, y, _ => by simp [Op.bytesLess]
  | [], _ :: _, _, _, h => by simp at h
  | _ :: _, [], _, _, h => by simp at h
  | c :: a, d :: b, x, y, h => by
    have ih := bl_app (a := a) (b := b) (x := x) (y := y) (by simpa using h)
    simp only [List.cons_append, Op.bytesLess, ih]
    by_cases h1 : c < d
    · simp [h1]
    · by_cases h2 : c = d
      · subst h2
        simp [h1]
      · have e2 : (c == d) = false := by rw [beq_eq_false_iff_ne]; exact h2
        have e3 : (c :: a == d :: b) = false := by rw [beq_eq_false_iff_ne]; intro h; exact h2 (List.cons.inj h).1
        simp [h1, e2, e3]
theorem bl_one (c d : UInt8) : Op.bytesLess [c] [d] = decide (c < d) := by simp [Op.bytesLess]
theorem dig_one {m n : Nat} (hm : m < 10) (hn : n < 10) : (UInt8.ofNat (48 + m) < UInt8.ofNat (48 + n) ↔ m < n) ∧ (UInt8.ofNat (48 + m) = UInt8.ofNat (48 + n) ↔ m = n) := by
  have e : ∀ k, k < 10 → (UInt8.ofNat (48 + k)).toNat = 48 + k := fun k hk => by
    rw [UInt8.toNat_ofNat']; exact Nat.mod_eq_of_lt (by omega)
  constructor
  · rw [UInt8.lt_iff_toNat_lt, e m hm, e n hn]; omega
  · constructor
    · intro h
      have := congrArg UInt8.toNat h
      rw [e m hm, e n hn] at this
      omega
    · rintro rfl; rfl
theorem bl_dig : ∀ (k m n : Nat), m < 10 ^ k → n < 10 ^ k → (Op.bytesLess (digU k m) (digU k n) = decide (m < n)) ∧ ((digU k m = digU k n) ↔ m = n)
  | 0, m, n, hm, hn => by
    have : m = 0 := by simpa using hm
    have : n = 0 := by simpa using hn
    subst_vars
    simp [digU, Op.bytesLess]
  | k + 1, m, n, hm, hn => by
    rw [Nat.pow_succ] at hm hn
    obtain ⟨h1, h2⟩ := bl_dig k (m / 10) (n / 10) (by omega) (by omega)
    obtain ⟨h3, h4⟩ := dig_one (show m % 10 < 10 by omega) (show n % 10 < 10 by omega)
    constructor
    · simp only [digU]
      rw [bl_app (by rw [digU_len, digU_len]), h1, bl_one]
      have e2 : (digU k (m / 10) == digU k (n / 10)) = decide (m / 10 = n / 10) := by
        by_cases h : m / 10 = n / 10
        · rw [decide_eq_true h, beq_iff_eq]; exact h2.2 h
        · rw [decide_eq_false h]
          cases hb : digU k (m / 10) == digU k (n / 10) with
          | false => rfl
          | true => exact absurd (h2.1 (beq_iff_eq.1 hb)) h
      rw [e2]
      rw [Bool.eq_iff_iff]
      simp only [Bool.or_eq_true, Bool.and_eq_true, decide_eq_true_eq, h3]
      omega
    · simp only [digU]
      constructor
      · intro h
        have hl := List.append_inj h (by rw [digU_len, digU_len])
        have e1 := h2.1 hl.1
        have e2 := h4.1 (by simpa using hl.2)
        omega
      · rintro rfl; rfl

/-! ### The text of seven numbers -/
def U (f0 f1 f2 f3 f4 f5 f6 : Nat) : List UInt8 :=
  digU 4 f0 ++ (45 :: (digU 2 f1 ++ (45 :: (digU 2 f2 ++ (84 :: (digU 2 f3 ++ (58 :: (digU 2 f4 ++ (58 :: (digU 2 f5 ++ (46 :: digU 6 f6)))))))))))
theorem U_len (f0 f1 f2 f3 f4 f5 f6 : Nat) : (U f0 f1 f2 f3 f4 f5 f6).length = 26 := by simp [U, digU_len]
theorem bl_seg {k m n : Nat} (c : UInt8) (x y : List UInt8) (hm : m < 10 ^ k) (hn : n < 10 ^ k) : Op.bytesLess (digU k m ++ (c :: x)) (digU k n ++ (c :: y)) = decide (m < n ∨ (m = n ∧ Op.bytesLess x y = true)) := by
  obtain ⟨h1, h2⟩ := bl_dig k m n hm hn
  rw [bl_app (by rw [digU_len, digU_len]), h1]
  have e : Op.bytesLess (c :: x) (c :: y) = Op.bytesLess x y := by simp [Op.bytesLess]
  rw [e, Bool.eq_iff_iff]
  simp only [Bool.or_eq_true, Bool.and_eq_true, decide_eq_true_eq, beq_iff_eq, h2]
theorem bl_U {f0 f1 f2 f3 f4 f5 f6 g0 g1 g2 g3 g4 g5 g6 : Nat} (a0 : f0 < 10 ^ 4) (a1 : f1 < 10 ^ 2) (a2 : f2 < 10 ^ 2) (a3 : f3 < 10 ^ 2) (a4 : f4 < 10 ^ 2) (a5 : f5 < 10 ^ 2) (a6 : f6 < 10 ^ 6)
    (b0 : g0 < 10 ^ 4) (b1 : g1 < 10 ^ 2) (b2 : g2 < 10 ^ 2) (b3 : g3 < 10 ^ 2) (b4 : g4 < 10 ^ 2) (b5 : g5 < 10 ^ 2) (b6 : g6 < 10 ^ 6) :
    (Op.bytesLess (U f0 f1 f2 f3 f4 f5 f6) (U g0 g1 g2 g3 g4 g5 g6) = true) ↔ (f0 < g0 ∨ (f0 = g0 ∧ (f1 < g1 ∨ (f1 = g1 ∧ (f2 < g2 ∨ (f2 = g2 ∧ (f3 < g3 ∨ (f3 = g3 ∧ (f4 < g4 ∨ (f4 = g4 ∧ (f5 < g5 ∨ (f5 = g5 ∧ f6 < g6)))))))))))) := by
  unfold U
  rw [bl_seg _ _ _ a0 b0, decide_eq_true_iff, bl_seg _ _ _ a1 b1, decide_eq_true_iff, bl_seg _ _ _ a2 b2, decide_eq_true_iff, bl_seg _ _ _ a3 b3, decide_eq_true_iff, bl_seg _ _ _ a4 b4, decide_eq_true_iff, bl_seg _ _ _ a5 b5, decide_eq_true_iff, (bl_dig 6 f6 g6 a6 b6).1, decide_eq_true_iff]

/-! ### Reading them again -/
theorem nthB_at (a : List UInt8) (c : UInt8) (b : List UInt8) : nthB (a ++ c :: b) a.length = (c.toNat : Int) := by
  simp [nthB, List.getD_eq_getElem?_getD]
theorem numB_dig : ∀ (k n : Nat) (a b : List UInt8), n < 10 ^ k → numB (a ++ (digU k n ++ b)) a.length k = (n : Int) ∧ allB (a ++ (digU k n ++ b)) a.length k = true
  | 0, n, a, b, h => by
    have : n = 0 := by simpa using h
    subst this
    exact ⟨rfl, rfl⟩
  | k + 1, n, a, b, h => by
    rw [Nat.pow_succ] at h
    have ih := numB_dig k (n / 10) a (UInt8.ofNat (48 + n % 10) :: b) (by omega)
    have e : a ++ (digU (k + 1) n ++ b) = a ++ (digU k (n / 10) ++ UInt8.ofNat (48 + n % 10) :: b) := by simp [digU]
    have e2 : nthB (a ++ (digU k (n / 10) ++ UInt8.ofNat (48 + n % 10) :: b)) (a.length + k) = ((48 + n % 10 : Nat) : Int) := by
      have := nthB_at (a ++ digU k (n / 10)) (UInt8.ofNat (48 + n % 10)) b
      rw [List.length_append, digU_len, List.append_assoc] at this
      rw [this, UInt8.toNat_ofNat', Nat.mod_eq_of_lt (by omega)]
    rw [e]
    refine ⟨?_, ?_⟩
    · show 10 * numB _ _ k + (nthB _ (a.length + k) - 48) = _
      rw [ih.1, e2]; omega
    · show (allB _ _ k && digB (nthB _ (a.length + k))) = true
      rw [ih.2, e2, Bool.true_and, digB_iff]; omega
theorem seg_ok {L a b : List UInt8} {k o n : Nat} (h : L = a ++ (digU k n ++ b)) (ha : a.length = o) (hn : n < 10 ^ k) : numB L o k = (n : Int) ∧ allB L o k = true := by
  subst h ha
  exact numB_dig k n a b hn
theorem sgn_ok {L a b : List UInt8} {o : Nat} {c : UInt8} (h : L = a ++ (c :: b)) (ha : a.length = o) : nthB L o = (c.toNat : Int) := by
  subst h ha
  exact nthB_at a c b

theorem U_read {f0 f1 f2 f3 f4 f5 f6 : Nat} (a0 : f0 < 10 ^ 4) (a1 : f1 < 10 ^ 2) (a2 : f2 < 10 ^ 2) (a3 : f3 < 10 ^ 2) (a4 : f4 < 10 ^ 2) (a5 : f5 < 10 ^ 2) (a6 : f6 < 10 ^ 6) :
    fmtB (U f0 f1 f2 f3 f4 f5 f6) = true ∧ valB (U f0 f1 f2 f3 f4 f5 f6) 0 = f0 ∧ valB (U f0 f1 f2 f3 f4 f5 f6) 1 = f1 ∧ valB (U f0 f1 f2 f3 f4 f5 f6) 2 = f2 ∧ valB (U f0 f1 f2 f3 f4 f5 f6) 3 = f3 ∧ valB (U f0 f1 f2 f3 f4 f5 f6) 4 = f4 ∧ valB (U f0 f1 f2 f3 f4 f5 f6) 5 = f5 ∧ valB (U f0 f1 f2 f3 f4 f5 f6) 6 = f6 := by
  have hlen : (U f0 f1 f2 f3 f4 f5 f6).length = 26 := U_len ..
  obtain ⟨L, hL⟩ : ∃ L, L = U f0 f1 f2 f3 f4 f5 f6 := ⟨_, rfl⟩
  rw [← hL] at hlen ⊢
  unfold U at hL
  have s0 := seg_ok (L := L) (a := []) (b := (45 :: (digU 2 f1 ++ (45 :: (digU 2 f2 ++ (84 :: (digU 2 f3 ++ (58 :: (digU 2 f4 ++ (58 :: (digU 2 f5 ++ (46 :: digU 6 f6)))))))))))) (o := 0) (k := 4) (n := f0) (by rw [hL]; simp only [List.append_assoc, List.cons_append, List.nil_append, List.append_nil]) (by simp [digU_len]) a0
  have c0 := sgn_ok (L := L) (a := digU 4 f0) (b := (digU 2 f1 ++ (45 :: (digU 2 f2 ++ (84 :: (digU 2 f3 ++ (58 :: (digU 2 f4 ++ (58 :: (digU 2 f5 ++ (46 :: digU 6 f6))))))))))) (o := 4) (c := 45) (by rw [hL]) (by simp [digU_len])
  have s1 := seg_ok (L := L) (a := (digU 4 f0 ++ [45])) (b := (45 :: (digU 2 f2 ++ (84 :: (digU 2 f3 ++ (58 :: (digU 2 f4 ++ (58 :: (digU 2 f5 ++ (46 :: digU 6 f6)))))))))) (o := 5) (k := 2) (n := f1) (by rw [hL]; simp only [List.append_assoc, List.cons_append, List.nil_append, List.append_nil]) (by simp [digU_len]) a1
  have c1 := sgn_ok (L := L) (a := (digU 4 f0 ++ (45 :: digU 2 f1))) (b := (digU 2 f2 ++ (84 :: (digU 2 f3 ++ (58 :: (digU 2 f4 ++ (58 :: (digU 2 f5 ++ (46 :: digU 6 f6))))))))) (o := 7) (c := 45) (by rw [hL]; simp only [List.append_assoc, List.cons_append, List.nil_append]) (by simp [digU_len])
  have s2 := seg_ok (L := L) (a := (digU 4 f0 ++ (45 :: (digU 2 f1 ++ [45])))) (b := (84 :: (digU 2 f3 ++ (58 :: (digU 2 f4 ++ (58 :: (digU 2 f5 ++ (46 :: digU 6 f6)))))))) (o := 8) (k := 2) (n := f2) (by rw [hL]; simp only [List.append_assoc, List.cons_append, List.nil_append, List.append_nil]) (by simp [digU_len]) a2
  have c2 := sgn_ok (L := L) (a := (digU 4 f0 ++ (45 :: (digU 2 f1 ++ (45 :: digU 2 f2))))) (b := (digU 2 f3 ++ (58 :: (digU 2 f4 ++ (58 :: (digU 2 f5 ++ (46 :: digU 6 f6))))))) (o := 10) (c := 84) (by rw [hL]; simp only [List.append_assoc, List.cons_append, List.nil_append]) (by simp [digU_len])
  have s3 := seg_ok (L := L) (a := (digU 4 f0 ++ (45 :: (digU 2 f1 ++ (45 :: (digU 2 f2 ++ [84])))))) (b := (58 :: (digU 2 f4 ++ (58 :: (digU 2 f5 ++ (46 :: digU 6 f6)))))) (o := 11) (k := 2) (n := f3) (by rw [hL]; simp only [List.append_assoc, List.cons_append, List.nil_append, List.append_nil]) (by simp [digU_len]) a3
  have c3 := sgn_ok (L := L) (a := (digU 4 f0 ++ (45 :: (digU 2 f1 ++ (45 :: (digU 2 f2 ++ (84 :: digU 2 f3))))))) (b := (digU 2 f4 ++ (58 :: (digU 2 f5 ++ (46 :: digU 6 f6))))) (o := 13) (c := 58) (by rw [hL]; simp only [List.append_assoc, List.cons_append, List.nil_append]) (by simp [digU_len])
  have s4 := seg_ok (L := L) (a := (digU 4 f0 ++ (45 :: (digU 2 f1 ++ (45 :: (digU 2 f2 ++ (84 :: (digU 2 f3 ++ [58])))))))) (b := (58 :: (digU 2 f5 ++ (46 :: digU 6 f6)))) (o := 14) (k := 2) (n := f4) (by rw [hL]; simp only [List.append_assoc, List.cons_append, List.nil_append, List.append_nil]) (by simp [digU_len]) a4
  have c4 := sgn_ok (L := L) (a := (digU 4 f0 ++ (45 :: (digU 2 f1 ++ (45 :: (digU 2 f2 ++ (84 :: (digU 2 f3 ++ (58 :: digU 2 f4))))))))) (b := (digU 2 f5 ++ (46 :: digU 6 f6))) (o := 16) (c := 58) (by rw [hL]; simp only [List.append_assoc, List.cons_append, List.nil_append]) (by simp [digU_len])
  have s5 := seg_ok (L := L) (a := (digU 4 f0 ++ (45 :: (digU 2 f1 ++ (45 :: (digU 2 f2 ++ (84 :: (digU 2 f3 ++ (58 :: (digU 2 f4 ++ [58])))))))))) (b := (46 :: digU 6 f6)) (o := 17) (k := 2) (n := f5) (by rw [hL]; simp only [List.append_assoc, List.cons_append, List.nil_append, List.append_nil]) (by simp [digU_len]) a5
  have c5 := sgn_ok (L := L) (a := (digU 4 f0 ++ (45 :: (digU 2 f1 ++ (45 :: (digU 2 f2 ++ (84 :: (digU 2 f3 ++ (58 :: (digU 2 f4 ++ (58 :: digU 2 f5))))))))))) (b := digU 6 f6) (o := 19) (c := 46) (by rw [hL]; simp only [List.append_assoc, List.cons_append, List.nil_append]) (by simp [digU_len])
  have s6 := seg_ok (L := L) (a := (digU 4 f0 ++ (45 :: (digU 2 f1 ++ (45 :: (digU 2 f2 ++ (84 :: (digU 2 f3 ++ (58 :: (digU 2 f4 ++ (58 :: (digU 2 f5 ++ [46])))))))))))) (b := []) (o := 20) (k := 6) (n := f6) (by rw [hL]; simp only [List.append_assoc, List.cons_append, List.nil_append, List.append_nil]) (by simp [digU_len]) a6
  clear hL
  refine ⟨?_, s0.1, s1.1, s2.1, s3.1, s4.1, s5.1, s6.1⟩
  have g : ∀ k, k < 7 → okG L k = true := by
    intro k hk
    have hk7 : k = 0 ∨ k = 1 ∨ k = 2 ∨ k = 3 ∨ k = 4 ∨ k = 5 ∨ k = 6 := by omega
    unfold okG
    rw [hlen]
    rcases hk7 with rfl | rfl | rfl | rfl | rfl | rfl | rfl
    · rw [show off 0 = 0 from rfl, show wid 0 = 4 from rfl, s0.2, c0]; decide
    · rw [show off 1 = 5 from rfl, show wid 1 = 2 from rfl, s1.2, c1]; decide
    · rw [show off 2 = 8 from rfl, show wid 2 = 2 from rfl, s2.2, c2]; decide
    · rw [show off 3 = 11 from rfl, show wid 3 = 2 from rfl, s3.2, c3]; decide
    · rw [show off 4 = 14 from rfl, show wid 4 = 2 from rfl, s4.2, c4]; decide
    · rw [show off 5 = 17 from rfl, show wid 5 = 2 from rfl, s5.2, c5]; decide
    · rw [show off 6 = 20 from rfl, show wid 6 = 6 from rfl, s6.2]; rfl
  unfold fmtB
  simp only [okUp, g 0 (by omega), g 1 (by omega), g 2 (by omega), g 3 (by omega), g 4 (by omega), g 5 (by omega), g 6 (by omega), hlen, Bool.and_self, decide_true]

/-! ### What is read is the text of what it says -/
theorem nthB_digit {x : UInt8} {v : Int} (h : (x.toNat : Int) = v) : x = UInt8.ofNat v.toNat := by
  subst h
  simp
theorem take_dig (l : List UInt8) (o : Nat) : ∀ j, o + j ≤ l.length → allB l o j = true → (l.drop o).take j = digU j (numB l o j).toNat ∧ 0 ≤ numB l o j
  | 0, _, _ => ⟨by simp [digU], Int.le_refl _⟩
  | j + 1, hl, h => by
    simp only [allB, Bool.and_eq_true] at h
    obtain ⟨h1, h2⟩ := h
    obtain ⟨ih, ih0⟩ := take_dig l o j (by omega) h1
    have hd := digB_iff.1 h2
    have hj : j < (l.drop o).length := by rw [List.length_drop]; omega
    have hx : ((l.drop o)[j].toNat : Int) = nthB l (o + j) := by
      unfold nthB
      rw [List.getD_eq_getElem?_getD, List.getElem?_eq_getElem (show o + j < l.length by omega)]
      simp
    refine ⟨?_, by simp only [numB]; omega⟩
    rw [List.take_succ_eq_append_getElem hj, ih]
    simp only [digU, numB]
    have e1 : (10 * numB l o j + (nthB l (o + j) - 48)).toNat / 10 = (numB l o j).toNat := by omega
    have e2 : 48 + (10 * numB l o j + (nthB l (o + j) - 48)).toNat % 10 = (nthB l (o + j)).toNat := by omega
    rw [e1, e2, nthB_digit hx]
theorem drop_seg {l : List UInt8} {o k : Nat} (hl : o + k ≤ l.length) (h : allB l o k = true) : l.drop o = digU k (numB l o k).toNat ++ l.drop (o + k) := by
  rw [← (take_dig l o k hl h).1, ← List.drop_drop, List.take_append_drop]
theorem drop_sgn {l : List UInt8} {o : Nat} {c : UInt8} (hl : o < l.length) (h : nthB l o = (c.toNat : Int)) : l.drop o = c :: l.drop (o + 1) := by
  rw [List.drop_eq_getElem_cons hl]
  congr 1
  have : (l[o].toNat : Int) = nthB l o := by
    unfold nthB
    rw [List.getD_eq_getElem?_getD, List.getElem?_eq_getElem hl]
    simp
  rw [h] at this
  apply UInt8.toNat_inj.1
  omega
theorem fmtB_U {l : List UInt8} (h : fmtB l = true) : l = U (valB l 0).toNat (valB l 1).toNat (valB l 2).toNat (valB l 3).toNat (valB l 4).toNat (valB l 5).toNat (valB l 6).toNat := by
  obtain ⟨h26, ha⟩ := fmtB_all h
  have hs : ∀ k, k < 6 → nthB l (off k + wid k) = sgn k := fun k hk => by
    have hu : okUp l 7 = true := by unfold fmtB at h; simp only [Bool.and_eq_true] at h; exact h.1
    have := okUp_at hu k (by omega)
    unfold okG at this
    simp only [Bool.and_eq_true, Bool.or_eq_true, decide_eq_true_eq] at this
    rcases this.2.2 with h1 | h1
    · omega
    · exact h1.2
  have d0 := drop_seg (l := l) (o := 0) (k := 4) (by omega) (ha 0 (by omega))
  have d1 := drop_seg (l := l) (o := 5) (k := 2) (by omega) (ha 1 (by omega))
  have d2 := drop_seg (l := l) (o := 8) (k := 2) (by omega) (ha 2 (by omega))
  have d3 := drop_seg (l := l) (o := 11) (k := 2) (by omega) (ha 3 (by omega))
  have d4 := drop_seg (l := l) (o := 14) (k := 2) (by omega) (ha 4 (by omega))
  have d5 := drop_seg (l := l) (o := 17) (k := 2) (by omega) (ha 5 (by omega))
  have d6 := drop_seg (l := l) (o := 20) (k := 6) (by omega) (ha 6 (by omega))
  have t0 := drop_sgn (l := l) (o := 4) (c := 45) (by omega) (hs 0 (by omega))
  have t1 := drop_sgn (l := l) (o := 7) (c := 45) (by omega) (hs 1 (by omega))
  have t2 := drop_sgn (l := l) (o := 10) (c := 84) (by omega) (hs 2 (by omega))
  have t3 := drop_sgn (l := l) (o := 13) (c := 58) (by omega) (hs 3 (by omega))
  have t4 := drop_sgn (l := l) (o := 16) (c := 58) (by omega) (hs 4 (by omega))
  have t5 := drop_sgn (l := l) (o := 19) (c := 46) (by omega) (hs 5 (by omega))
  have e26 : l.drop (20 + 6) = [] := List.drop_eq_nil_of_le (by omega)
  unfold U
  have key : l = digU 4 (numB l 0 4).toNat ++ (45 :: (digU 2 (numB l 5 2).toNat ++ (45 :: (digU 2 (numB l 8 2).toNat ++ (84 :: (digU 2 (numB l 11 2).toNat ++ (58 :: (digU 2 (numB l 14 2).toNat ++ (58 :: (digU 2 (numB l 17 2).toNat ++ (46 :: digU 6 (numB l 20 6).toNat))))))))))) := by
    rw [e26, List.append_nil] at d6
    rw [← d6, ← t5, ← d5, ← t4, ← d4, ← t3, ← d3, ← t2, ← d2, ← t1, ← d1, ← t0, ← d0, List.drop_zero]
  exact key

/-! ### Numbers and times -/
theorem txt_U (d m : Int) : strOfNums (txtL d m) = mkS (U (2000 + monOf d / 12) (monN (monOf d)) (d - monS (monOf d) + 1).toNat (hmsN (m.toNat / 1000000)).1 (hmsN (m.toNat / 1000000)).2.1 (hmsN (m.toNat / 1000000)).2.2 (m.toNat % 1000000)) := by
  rw [strOfNums_mkS]
  refine congrArg mkS ?_
  unfold txtL
  simp only [preT, bytesOf_app, List.nil_append, wid, sep, List.getD_cons_zero, List.getD_cons_succ, List.getD_nil, bytesOf_dgs, partN]
  simp only [bytesOf, List.map_cons, List.map_nil]
  unfold U
  simp only [List.append_assoc, List.cons_append, List.nil_append, List.append_nil]
  rfl
theorem hms_bd {n : Nat} (h : n ≤ 86400) : (hmsN n).1 ≤ 23 ∧ (hmsN n).2.1 ≤ 59 ∧ (hmsN n).2.2 ≤ 60 ∧ ((hmsN n).2.2 ≤ 59 ∨ ((hmsN n).1 = 23 ∧ (hmsN n).2.1 = 59)) ∧ (hmsN n).1 * 3600 + (hmsN n).2.1 * 60 + (hmsN n).2.2 = n := by
  unfold hmsN
  by_cases h1 : n = 86400
  · rw [if_pos h1]; subst h1; simp
  · rw [if_neg h1]
    simp only
    omega
theorem hms_inv {h mi s : Nat} (h1 : h ≤ 23) (h2 : mi ≤ 59) (h3 : s ≤ 59 ∨ (h = 23 ∧ mi = 59 ∧ s = 60)) : hmsN (h * 3600 + mi * 60 + s) = (h, mi, s) := by
  unfold hmsN
  by_cases h4 : h * 3600 + mi * 60 + s = 86400
  · rw [if_pos h4]
    have : h = 23 ∧ mi = 59 ∧ s = 60 := by omega
    obtain ⟨rfl, rfl, rfl⟩ := this
    rfl
  · rw [if_neg h4]
    simp only [Prod.mk.injEq]
    omega
theorem date_dy {d : Int} (h0 : 0 ≤ d) (h9 : d ≤ 34000) : dyF ((2000 + monOf d / 12 : Nat) : Int) ((monN (monOf d) : Nat) : Int) (((d - monS (monOf d) + 1).toNat : Nat) : Int) = (d, 0) := by
  obtain ⟨hm, hm9⟩ := monOf_spec h0 h9
  generalize monOf d = n at *
  have h1 := hm.1
  have h2 : d < monS n + lenN n := hm.2
  have hm1 := monN_bd n
  have hf : fstD ((2000 + n / 12 : Nat) : Int) ((monN n : Nat) : Int) = monS n := by
    unfold fstD
    congr 1
    unfold monN
    omega
  have hok : okD ((2000 + n / 12 : Nat) : Int) ((monN n : Nat) : Int) (((d - monS n + 1).toNat : Nat) : Int) = true := by
    unfold okD
    rw [Bool.and_eq_true, isMon_iff, decide_eq_true_iff]
    refine ⟨by omega, by omega, ?_⟩
    have : lenM ((2000 + n / 12 : Nat) : Int) ((monN n : Nat) : Int).toNat = lenN n := by
      unfold lenN
      congr 1
    rw [this]
    omega
  unfold dyF
  rw [if_pos hok, hf, if_pos (by omega)]
  congr 1
  omega
theorem dy_date {y mo dd : Nat} {d : Int} (h : dyF (y : Int) (mo : Int) (dd : Int) = (d, 0)) : 0 ≤ d ∧ d ≤ 34000 ∧ 2000 + monOf d / 12 = y ∧ monN (monOf d) = mo ∧ (d - monS (monOf d) + 1).toNat = dd := by
  unfold dyF at h
  by_cases hok : okD (y : Int) (mo : Int) (dd : Int) = true
  · rw [if_pos hok] at h
    by_cases h9 : fstD (y : Int) (mo : Int) + (dd : Int) - 1 ≤ 34000
    · rw [if_pos h9] at h
      simp only [Prod.mk.injEq, and_true] at h
      unfold okD at hok
      rw [Bool.and_eq_true, isMon_iff, decide_eq_true_iff] at hok
      obtain ⟨⟨y1, y2, m1, m2⟩, d1, d2⟩ := hok
      have hn : ∃ n, n = 12 * (y - 2000) + (mo - 1) := ⟨_, rfl⟩
      obtain ⟨n, hn⟩ := hn
      have hf : fstD (y : Int) (mo : Int) = monS n := by
        unfold fstD
        congr 1
        omega
      have hl : lenM (y : Int) ((mo : Int)).toNat = lenN n := by
        unfold lenN yearN monN
        rw [Int.toNat_natCast]
        congr 1 <;> omega
      rw [hf] at h h9
      rw [hl] at d2
      have hp := monS_nonneg n
      have hin : InMon d n := ⟨by omega, by show d < monS n + lenN n; omega⟩
      rw [monOf_of hin]
      refine ⟨by omega, by omega, by omega, ?_, by omega⟩
      unfold monN
      omega
    · rw [if_neg h9] at h
      simp at h
  · rw [if_neg hok] at h
    simp at h

/-- The numbers of a time's text. -/
theorem parts_bd {d m : Int} (hd : 0 ≤ d ∧ d ≤ 34000) (hm : 0 ≤ m ∧ m ≤ 86400999999) :
    2000 + monOf d / 12 < 10 ^ 4 ∧ monN (monOf d) < 10 ^ 2 ∧ (d - monS (monOf d) + 1).toNat < 10 ^ 2 ∧ (hmsN (m.toNat / 1000000)).1 < 10 ^ 2 ∧ (hmsN (m.toNat / 1000000)).2.1 < 10 ^ 2 ∧ (hmsN (m.toNat / 1000000)).2.2 < 10 ^ 2 ∧ m.toNat % 1000000 < 10 ^ 6 := by
  obtain ⟨hmo, hm9⟩ := monOf_spec hd.1 hd.2
  have h1 := hmo.1
  have h2 : d < monS (monOf d) + lenN (monOf d) := hmo.2
  have h3 := lenN_bd (monOf d)
  have h4 := monN_bd (monOf d)
  have h5 := hms_bd (show m.toNat / 1000000 ≤ 86400 by omega)
  refine ⟨by omega, by omega, by omega, by omega, by omega, by omega, by omega⟩

theorem txtF_yes {d m : Int} (h : (txtF d m).2 = 0) : (0 ≤ d ∧ d ≤ 34000) ∧ (0 ≤ m ∧ m ≤ 86400999999) := by
  unfold txtF at h
  by_cases h1 : (0 ≤ d ∧ d ≤ 34000) ∧ 0 ≤ m ∧ m ≤ 86400999999
  · exact h1
  · rw [if_neg h1] at h
    cases h
theorem txtF_two (d m : Int) : (txtF d m).2 = 0 ∨ (txtF d m).2 = 1 := by
  unfold txtF
  split
  · exact .inl rfl
  · exact .inr rfl

/-- **The text of a time is read as it.** -/
theorem txt_read {d m : Int} (h : (txtF d m).2 = 0) : ∃ l : List UInt8, (txtF d m).1 = mkS l ∧ l.length = 26 ∧ prsF l = ((d, m), 0) := by
  obtain ⟨hd, hm⟩ := txtF_yes h
  refine ⟨U (2000 + monOf d / 12) (monN (monOf d)) (d - monS (monOf d) + 1).toNat (hmsN (m.toNat / 1000000)).1 (hmsN (m.toNat / 1000000)).2.1 (hmsN (m.toNat / 1000000)).2.2 (m.toNat % 1000000), ?_, U_len _ _ _ _ _ _ _, ?_⟩
  · unfold txtF
    rw [if_pos ⟨hd, hm⟩]
    exact txt_U d m
  · obtain ⟨a0, a1, a2, a3, a4, a5, a6⟩ := parts_bd hd hm
    obtain ⟨hf, v0, v1, v2, v3, v4, v5, v6⟩ := U_read a0 a1 a2 a3 a4 a5 a6
    have h5 := hms_bd (show m.toNat / 1000000 ≤ 86400 by omega)
    unfold prsF
    rw [v0, v1, v2, v3, v4, v5, v6, date_dy hd.1 hd.2]
    have hbad : ¬ BadT (d, (0 : Int)).2 ((hmsN (m.toNat / 1000000)).1 : Int) ((hmsN (m.toNat / 1000000)).2.1 : Int) ((hmsN (m.toNat / 1000000)).2.2 : Int) := by
      unfold BadT
      simp only
      omega
    rw [if_pos ⟨hf, hbad⟩]
    refine Prod.ext (Prod.ext rfl ?_) rfl
    simp only
    omega

/-- **What is read has the string as its text.** -/
theorem read_txt {l : List UInt8} {d m : Int} (h : prsF l = ((d, m), 0)) : txtF d m = (mkS l, 0) ∧ (0 ≤ d ∧ d ≤ 34000) ∧ (0 ≤ m ∧ m ≤ 86400999999) := by
  unfold prsF at h
  by_cases h1 : fmtB l = true ∧ ¬ BadT (dyF (valB l 0) (valB l 1) (valB l 2)).2 (valB l 3) (valB l 4) (valB l 5)
  · rw [if_pos h1] at h
    obtain ⟨hf, hb⟩ := h1
    have hU := fmtB_U hf
    have b0 := valB_bd hf 0 (by omega)
    have b1 := valB_bd hf 1 (by omega)
    have b2 := valB_bd hf 2 (by omega)
    have b3 := valB_bd hf 3 (by omega)
    have b4 := valB_bd hf 4 (by omega)
    have b5 := valB_bd hf 5 (by omega)
    have b6 := valB_bd hf 6 (by omega)
    simp only [wid, List.getD_cons_zero, List.getD_cons_succ] at b0 b1 b2 b3 b4 b5 b6
    obtain ⟨n0, e0⟩ : ∃ n : Nat, valB l 0 = n := ⟨(valB l 0).toNat, by omega⟩
    obtain ⟨n1, e1⟩ : ∃ n : Nat, valB l 1 = n := ⟨(valB l 1).toNat, by omega⟩
    obtain ⟨n2, e2⟩ : ∃ n : Nat, valB l 2 = n := ⟨(valB l 2).toNat, by omega⟩
    obtain ⟨n3, e3⟩ : ∃ n : Nat, valB l 3 = n := ⟨(valB l 3).toNat, by omega⟩
    obtain ⟨n4, e4⟩ : ∃ n : Nat, valB l 4 = n := ⟨(valB l 4).toNat, by omega⟩
    obtain ⟨n5, e5⟩ : ∃ n : Nat, valB l 5 = n := ⟨(valB l 5).toNat, by omega⟩
    obtain ⟨n6, e6⟩ : ∃ n : Nat, valB l 6 = n := ⟨(valB l 6).toNat, by omega⟩
    simp only [e0, e1, e2, e3, e4, e5, e6] at h hb b0 b1 b2 b3 b4 b5 b6
    have hU2 : l = U n0 n1 n2 n3 n4 n5 n6 := by
      rw [e0, e1, e2, e3, e4, e5, e6] at hU
      simpa only [Int.toNat_natCast] using hU
    clear hU
    have hU := hU2
    simp only [Prod.mk.injEq, and_true] at h
    obtain ⟨hd, hm⟩ := h
    unfold BadT at hb
    have hdy : dyF (n0 : Int) (n1 : Int) (n2 : Int) = (d, 0) := Prod.ext hd (by simp only; omega)
    obtain ⟨q0, q9, p0, p1, p2⟩ := dy_date hdy
    have hh : n3 ≤ 23 := by omega
    have hmi : n4 ≤ 59 := by omega
    have hs : n5 ≤ 59 ∨ (n3 = 23 ∧ n4 = 59 ∧ n5 = 60) := by omega
    have hm1 : m.toNat / 1000000 = n3 * 3600 + n4 * 60 + n5 := by omega
    have hm2 : m.toNat % 1000000 = n6 := by omega
    have hmb : 0 ≤ m ∧ m ≤ 86400999999 := by omega
    refine ⟨?_, ⟨q0, q9⟩, hmb⟩
    unfold txtF
    rw [if_pos ⟨⟨q0, q9⟩, hmb⟩, txt_U, p0, p1, p2, hm1, hm2, hms_inv hh hmi hs, ← hU]
  · rw [if_neg h1] at h
    simp at h
theorem prsF_two (l : List UInt8) : (prsF l).2 = 0 ∨ prsF l = ((0, 0), 7) := by
  unfold prsF
  split
  · exact .inl rfl
  · exact .inr rfl

theorem date_lex {d e : Int} (hd : 0 ≤ d ∧ d ≤ 34000) (he : 0 ≤ e ∧ e ≤ 34000) :
    (d < e ↔ (2000 + monOf d / 12 < 2000 + monOf e / 12 ∨ (2000 + monOf d / 12 = 2000 + monOf e / 12 ∧ (monN (monOf d) < monN (monOf e) ∨ (monN (monOf d) = monN (monOf e) ∧ (d - monS (monOf d) + 1).toNat < (e - monS (monOf e) + 1).toNat))))) ∧
    (d = e ↔ (2000 + monOf d / 12 = 2000 + monOf e / 12 ∧ monN (monOf d) = monN (monOf e) ∧ (d - monS (monOf d) + 1).toNat = (e - monS (monOf e) + 1).toNat)) := by
  obtain ⟨h1, h9⟩ := monOf_spec hd.1 hd.2
  obtain ⟨k1, k9⟩ := monOf_spec he.1 he.2
  generalize monOf d = n at *
  generalize monOf e = k at *
  obtain ⟨h1, h2⟩ := h1
  obtain ⟨k1, k2⟩ := k1
  unfold monN
  rcases Nat.lt_trichotomy n k with h | h | h
  · have := monS_mono (show n + 1 ≤ k by omega)
    omega
  · subst h
    omega
  · have := monS_mono (show k + 1 ≤ n by omega)
    omega
theorem hms_lex {m n : Nat} (hm : m ≤ 86400) (hn : n ≤ 86400) :
    (m < n ↔ ((hmsN m).1 < (hmsN n).1 ∨ ((hmsN m).1 = (hmsN n).1 ∧ ((hmsN m).2.1 < (hmsN n).2.1 ∨ ((hmsN m).2.1 = (hmsN n).2.1 ∧ (hmsN m).2.2 < (hmsN n).2.2))))) := by
  have h1 := hms_bd hm
  have h2 := hms_bd hn
  generalize hmsN m = a at *
  generalize hmsN n = b at *
  obtain ⟨a1, a2, a3⟩ := a
  obtain ⟨b1, b2, b3⟩ := b
  simp only at *
  omega
set_option maxHeartbeats 2000000 in
/-- **The text of the later time comes later.** -/
theorem txt_less {d m e n : Int} (h1 : (txtF d m).2 = 0) (h2 : (txtF e n).2 = 0) : Op.bytesLess (txtF d m).1.toList (txtF e n).1.toList = decide (d < e ∨ (d = e ∧ m < n)) := by
  obtain ⟨hd, hm⟩ := txtF_yes h1
  obtain ⟨he, hn⟩ := txtF_yes h2
  unfold txtF
  rw [if_pos ⟨hd, hm⟩, if_pos ⟨he, hn⟩]
  simp only
  rw [txt_U, txt_U, mkS_toList, mkS_toList]
  obtain ⟨a0, a1, a2, a3, a4, a5, a6⟩ := parts_bd hd hm
  obtain ⟨b0, b1, b2, b3, b4, b5, b6⟩ := parts_bd he hn
  have hb := bl_U a0 a1 a2 a3 a4 a5 a6 b0 b1 b2 b3 b4 b5 b6
  have hl := date_lex hd he
  have hh := hms_lex (show m.toNat / 1000000 ≤ 86400 by omega) (show n.toNat / 1000000 ≤ 86400 by omega)
  have hs1 := hms_bd (show m.toNat / 1000000 ≤ 86400 by omega)
  have hs2 := hms_bd (show n.toNat / 1000000 ≤ 86400 by omega)
  rw [Bool.eq_iff_iff, hb, decide_eq_true_iff]
  clear hb a0 a1 a2 a3 a4 a5 a6 b0 b1 b2 b3 b4 b5 b6
  generalize 2000 + monOf d / 12 = f0 at *
  generalize monN (monOf d) = f1 at *
  generalize (d - monS (monOf d) + 1).toNat = f2 at *
  generalize 2000 + monOf e / 12 = g0 at *
  generalize monN (monOf e) = g1 at *
  generalize (e - monS (monOf e) + 1).toNat = g2 at *
  generalize hmsN (m.toNat / 1000000) = F at *
  generalize hmsN (n.toNat / 1000000) = G at *
  obtain ⟨f3, f4, f5⟩ := F
  obtain ⟨g3, g4, g5⟩ := G
  simp only at *
  have ht : (m < n) ↔ (f3 < g3 ∨ (f3 = g3 ∧ (f4 < g4 ∨ (f4 = g4 ∧ (f5 < g5 ∨ (f5 = g5 ∧ m.toNat % 1000000 < n.toNat % 1000000)))))) := by
    clear hl hd he h1 h2
    by_cases q : m.toNat / 1000000 = n.toNat / 1000000
    · have e3 : f3 = g3 ∧ f4 = g4 ∧ f5 = g5 := by omega
      obtain ⟨rfl, rfl, rfl⟩ := e3
      clear hh hs1 hs2
      simp only [Nat.lt_irrefl, false_or, true_and]
      omega
    · by_cases q2 : m.toNat / 1000000 < n.toNat / 1000000
      · have := hh.1 q2
        clear hh hs1 hs2
        have hmn : m < n := by omega
        refine iff_of_true hmn ?_
        omega
      · have h3 := mt hh.2 q2
        have hmn : ¬ m < n := by omega
        have hne : ¬ (f3 = g3 ∧ f4 = g4 ∧ f5 = g5) := by omega
        clear hh hs1 hs2
        refine iff_of_false hmn ?_
        omega
  rw [ht]
  clear ht hh hs1 hs2 h1 h2 hm hn
  generalize (f3 < g3 ∨ (f3 = g3 ∧ (f4 < g4 ∨ (f4 = g4 ∧ (f5 < g5 ∨ (f5 = g5 ∧ m.toNat % 1000000 < n.toNat % 1000000)))))) = R
  obtain ⟨hl1, hl2⟩ := hl
  by_cases q : d = e
  · obtain ⟨rfl, rfl, rfl⟩ := hl2.1 q
    subst q
    simp
  · have h4 := mt hl2.2 q
    rw [hl1]
    by_cases r0 : f0 = g0
    · by_cases r1 : f1 = g1
      · by_cases r2 : f2 = g2
        · exact absurd ⟨r0, r1, r2⟩ h4
        · subst r0 r1; simp [r2, q]
      · subst r0; simp [r1, q]
    · simp [r0, q]
end Go.Proofs.YtchbeheekahhiaaDoor
