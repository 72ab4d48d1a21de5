/- Layer 1, plainly: one form at most for each number; sums and products are those of a ring. No condition. -/
import Derived.Test.YtdomlnhgafielaaGreatDoorAmpPlain

namespace Amp
def addC (x y : C4) : C4 := ⟨x.a + y.a, x.b + y.b, x.c + y.c, x.d + y.d⟩
theorem root_add (x y : C4) : root (addC x y) = addC (root x) (root y) := by
  refine C4.ext' ?_ ?_ ?_ ?_ <;> simp only [root, addC] <;> omega
theorem rpow_add : ∀ (n : Nat) (x y : C4), rpow n (addC x y) = addC (rpow n x) (rpow n y)
  | 0, _, _ => rfl
  | n + 1, x, y => by show rpow n (root (addC x y)) = _; rw [root_add, rpow_add n]; rfl
theorem dbl_inj {x y : C4} (h : dbl x = dbl y) : x = y := by
  simp only [dbl, C4.mk.injEq] at h
  exact C4.ext' (by omega) (by omega) (by omega) (by omega)
theorem root_inj {x y : C4} (h : root x = root y) : x = y := by
  apply dbl_inj
  rw [← root_root, ← root_root, h]
theorem rpow_inj : ∀ (n : Nat) {x y : C4}, rpow n x = rpow n y → x = y
  | 0, _, _, h => h
  | n + 1, _, _, h => root_inj (rpow_inj n h)
theorem rpow_rpow : ∀ (m n : Nat) (x : C4), rpow m (rpow n x) = rpow (m + n) x
  | m, 0, x => rfl
  | m, n + 1, x => by show rpow m (rpow n (root x)) = rpow (m + n) (root x); exact rpow_rpow m n (root x)

theorem half_dbl (x : C4) : half (dbl x) = x := by
  refine C4.ext' ?_ ?_ ?_ ?_ <;> simp only [half, dbl] <;> exact Int.mul_tdiv_cancel _ (by decide)
theorem even_root (x : C4) : evenB (root x) = true := by
  refine decide_eq_true ⟨?_, ?_⟩ <;> simp only [root] <;> omega
theorem red_root (k : Nat) (x : C4) : red (k + 1) (root x) = red k x := by
  show (if evenB (root x) = true then red k (half (root (root x))) else (root x, k + 1)) = red k x
  rw [if_pos (even_root x), root_root, half_dbl]
theorem red_rpow (k : Nat) : ∀ (n : Nat) (x : C4), red (k + n) (rpow n x) = red k x
  | 0, _ => rfl
  | n + 1, x => by
    rw [rpow_succ, show k + (n + 1) = (k + n) + 1 by omega, red_root]
    exact red_rpow k n x
theorem root_half {x : C4} (h : evenB x = true) : root (half (root x)) = x := by
  simp only [evenB, decide_eq_true_eq] at h
  have h1 := tdiv2_even (x.b - x.d) (by omega)
  have h2 := tdiv2_even (x.a + x.c) (by omega)
  have h3 := tdiv2_even (x.b + x.d) (by omega)
  have h4 := tdiv2_even (x.c - x.a) (by omega)
  refine C4.ext' ?_ ?_ ?_ ?_ <;> simp only [root, half] <;> omega
theorem red_val : ∀ (k : Nat) (x : C4), rpow (k - (red k x).2) (red k x).1 = x
  | 0, x => rfl
  | k + 1, x => by
    by_cases h : evenB x = true
    · have e : red (k + 1) x = red k (half (root x)) := if_pos h
      rw [e, show k + 1 - (red k (half (root x))).2 = (k - (red k (half (root x))).2) + 1 by have := red_le k (half (root x)); omega, rpow_succ, red_val k, root_half h]
    · have e : red (k + 1) x = (x, k + 1) := if_neg h
      rw [e, Nat.sub_self]; rfl

/-- Two sums over powers of the root are one number. -/
def Same (x : C4) (k : Nat) (y : C4) (j : Nat) : Prop := ∃ m n, k + m = j + n ∧ rpow m x = rpow n y
theorem Same.refl (x : C4) (k : Nat) : Same x k x k := ⟨0, 0, rfl, rfl⟩
theorem Same.symm {x y : C4} {k j : Nat} (h : Same x k y j) : Same y j x k := by
  obtain ⟨m, n, h1, h2⟩ := h; exact ⟨n, m, h1.symm, h2.symm⟩
theorem Same.trans {x y z : C4} {k j i : Nat} (h : Same x k y j) (h' : Same y j z i) : Same x k z i := by
  obtain ⟨m, n, h1, h2⟩ := h
  obtain ⟨m', n', h3, h4⟩ := h'
  refine ⟨m + m', n + n', by omega, ?_⟩
  rw [Nat.add_comm m m', ← rpow_rpow m' m, h2, rpow_rpow, Nat.add_comm m' n, ← rpow_rpow n m', h4, rpow_rpow]
theorem Same.up (x : C4) (k n : Nat) : Same (rpow n x) (k + n) x k := ⟨0, n, by omega, rfl⟩
theorem Same.add {x y x' y' : C4} {k j : Nat} (h : Same x k x' j) (h' : Same y k y' j) : Same (addC x y) k (addC x' y') j := by
  obtain ⟨m, n, h1, h2⟩ := h
  obtain ⟨m', n', h3, h4⟩ := h'
  refine ⟨m' + m, m' + n, by omega, ?_⟩
  rw [rpow_add, rpow_add]
  have e1 : rpow (m' + m) x = rpow (m' + n) x' := by rw [← rpow_rpow, h2, rpow_rpow]
  have e2 : rpow (m' + m) y = rpow (m' + n) y' := by
    rw [Nat.add_comm m' m, ← rpow_rpow, h4, rpow_rpow, show m + n' = m' + n by omega]
  rw [e1, e2]
theorem mul_root (x y : C4) : mulC (root x) y = root (mulC x y) := by
  refine C4.ext' ?_ ?_ ?_ ?_ <;> simp only [mulC, root] <;> grind
theorem mul_comm' (x y : C4) : mulC x y = mulC y x := by
  refine C4.ext' ?_ ?_ ?_ ?_ <;> simp only [mulC] <;> grind
theorem mul_add' (x y z : C4) : mulC (addC x y) z = addC (mulC x z) (mulC y z) := by
  refine C4.ext' ?_ ?_ ?_ ?_ <;> simp only [mulC, addC] <;> grind
theorem mul_rpow : ∀ (n : Nat) (x y : C4), mulC (rpow n x) y = rpow n (mulC x y)
  | 0, _, _ => rfl
  | n + 1, x, y => by
    show mulC (rpow n (root x)) y = rpow n (root (mulC x y))
    rw [mul_rpow n, mul_root]
theorem mul_rpow' (n : Nat) (x y : C4) : mulC x (rpow n y) = rpow n (mulC x y) := by
  rw [mul_comm', mul_rpow, mul_comm']
theorem Same.mul {x y x' y' : C4} {k j k' j' : Nat} (h : Same x k x' k') (h' : Same y j y' j') : Same (mulC x y) (k + j) (mulC x' y') (k' + j') := by
  obtain ⟨m, n, h1, h2⟩ := h
  obtain ⟨m', n', h3, h4⟩ := h'
  refine ⟨m' + m, n' + n, by omega, ?_⟩
  rw [← rpow_rpow m' m, ← mul_rpow m, ← mul_rpow', ← rpow_rpow n' n, ← mul_rpow n, ← mul_rpow', h2, h4]
theorem conj_root (x : C4) : conjC (root x) = root (conjC x) := by
  refine C4.ext' ?_ ?_ ?_ ?_ <;> simp only [conjC, root] <;> omega
theorem conj_rpow : ∀ (n : Nat) (x : C4), conjC (rpow n x) = rpow n (conjC x)
  | 0, _ => rfl
  | n + 1, x => by show conjC (rpow n (root x)) = rpow n (root (conjC x)); rw [conj_rpow n, conj_root]
theorem conj_mul (x y : C4) : conjC (mulC x y) = mulC (conjC x) (conjC y) := by
  refine C4.ext' ?_ ?_ ?_ ?_ <;> simp only [conjC, mulC] <;> grind
theorem Same.conj {x y : C4} {k j : Nat} (h : Same x k y j) : Same (conjC x) k (conjC y) j := by
  obtain ⟨m, n, h1, h2⟩ := h
  exact ⟨m, n, h1, by rw [← conj_rpow, ← conj_rpow, h2]⟩
theorem Same.neg {x y : C4} {k j : Nat} (h : Same x k y j) : Same (negC x) k (negC y) j := by
  obtain ⟨m, n, h1, h2⟩ := h
  exact ⟨m, n, h1, by rw [rpow_neg, rpow_neg, h2]⟩

/-- The form of a number hangs on the number alone. -/
theorem made_same {x y : C4} {k j : Nat} (h : Same x k y j) : made x k = made y j := by
  obtain ⟨m, n, h1, h2⟩ := h
  have e : red k x = red j y := by
    rw [← red_rpow k m, h1, h2, red_rpow]
  unfold made
  simp only [Int.toNat_natCast, e]
theorem made_valid {x : C4} {k : Nat} (h : validB x k = true) : made x k = ⟨x, k, 0⟩ := by
  have e : red k x = (x, k) := by
    apply red_valid
    simp only [validB, Bool.and_eq_true, Bool.or_eq_true, decide_eq_true_eq, Bool.not_eq_true'] at h
    exact h.2.imp (fun h => by omega) id
  unfold made
  simp only [Int.toNat_natCast, e, h, if_true]
/-- What a form stands for. -/
theorem made_val {x : C4} {k : Nat} {r : Res} (h : made x k = r) (he : r.e = 0) : ∃ m : Nat, r.k = m ∧ Same x k r.x m ∧ validB r.x m = true := by
  unfold made at h
  simp only [Int.toNat_natCast] at h
  split at h
  · rename_i hv
    subst h
    refine ⟨(red k x).2, rfl, ⟨0, k - (red k x).2, ?_, ?_⟩, hv⟩
    · have := red_le k x; omega
    · exact (red_val k x).symm
  · subst h
    simp [fail] at he
theorem form_uniq {x y : C4} {k j : Nat} (hx : validB x k = true) (hy : validB y j = true) (h : Same x k y j) : x = y ∧ k = j := by
  have h1 := made_valid hx
  rw [made_same h, made_valid hy] at h1
  simp only [Res.mk.injEq] at h1
  exact ⟨h1.1.symm, by omega⟩
theorem valid_nat {x : C4} {k : Int} (h : validB x k = true) : ∃ n : Nat, k = n ∧ n ≤ 40 := by
  obtain ⟨h1, h2⟩ := validB_k h
  exact ⟨k.toNat, by omega, by omega⟩

theorem addK_nat (x y : C4) (k j : Nat) : addK x k y j = addC (rpow (max k j - k) x) (rpow (max k j - j) y) := by
  have h : (max (k : Int) (j : Int)) = ((max k j : Nat) : Int) := by omega
  unfold addK addC
  rw [h, show ((max k j : Nat) : Int) - k = ((max k j - k : Nat) : Int) by omega, show ((max k j : Nat) : Int) - j = ((max k j - j : Nat) : Int) by omega, Int.toNat_natCast, Int.toNat_natCast]
theorem max_cast (k j : Nat) : (max (k : Int) (j : Int)) = ((max k j : Nat) : Int) := by omega
theorem addC_comm (x y : C4) : addC x y = addC y x := by
  refine C4.ext' ?_ ?_ ?_ ?_ <;> simp only [addC] <;> omega
theorem addC_neg (x y : C4) : addC (addC x y) (negC y) = x := by
  refine C4.ext' ?_ ?_ ?_ ?_ <;> simp only [addC, negC] <;> omega
/-- A sum, over any exponent that is not less than both. -/
theorem same_addK (x y : C4) (k j N : Nat) (hk : k ≤ N) (hj : j ≤ N) : Same (addK x k y j) (max k j) (addC (rpow (N - k) x) (rpow (N - j) y)) N := by
  refine ⟨N - max k j, 0, by omega, ?_⟩
  rw [addK_nat, rpow_add, rpow_rpow, rpow_rpow, show N - max k j + (max k j - k) = N - k by omega, show N - max k j + (max k j - j) = N - j by omega]
  rfl
theorem Same.lift (x : C4) {k N : Nat} (h : k ≤ N) : Same x k (rpow (N - k) x) N := ⟨N - k, 0, by omega, rfl⟩
/-- The sum of numbers that are each the same. -/
theorem Same.addK {x y x' y' : C4} {k j k' j' : Nat} (h : Same x k x' k') (h' : Same y j y' j') : Same (addK x k y j) (max k j) (addK x' k' y' j') (max k' j') := by
  refine (same_addK x y k j (k + j) (by omega) (by omega)).trans (Same.trans ?_ (same_addK x' y' k' j' (k' + j') (by omega) (by omega)).symm)
  exact Same.add ((Same.lift x (by omega)).symm.trans (h.trans (Same.lift x' (by omega)))) ((Same.lift y (by omega)).symm.trans (h'.trans (Same.lift y' (by omega))))
end Amp

/- Layer 1, plainly: the order of two numbers plays no part; a difference undoes a sum; a product of a sum is the sum of the products. No condition. -/

namespace Amp
theorem addN_comm (x y : C4) (k j : Int) : addN x k y j = addN y j x k := by
  unfold addN
  by_cases h : validB x k = true ∧ validB y j = true
  · obtain ⟨n, rfl, _⟩ := valid_nat h.1
    obtain ⟨m, rfl, _⟩ := valid_nat h.2
    rw [if_pos h, if_pos h.symm, addK_nat, addK_nat, addC_comm, max_cast, max_cast, Nat.max_comm]
  · rw [if_neg h, if_neg (fun h' => h h'.symm)]
theorem mulN_comm (x y : C4) (k j : Int) : mulN x k y j = mulN y j x k := by
  unfold mulN
  by_cases h : validB x k = true ∧ validB y j = true
  · rw [if_pos h, if_pos h.symm, mul_comm', Int.add_comm]
  · rw [if_neg h, if_neg (fun h' => h h'.symm)]
theorem addN_cases (x y : C4) (k j : Int) : (∃ e, e ≠ 0 ∧ addN x k y j = fail e) ∨ (∃ n m i : Nat, ∃ s, k = n ∧ j = m ∧ validB x k = true ∧ validB y j = true ∧ addN x k y j = ⟨s, i, 0⟩ ∧ validB s i = true ∧ Same (addK x n y m) (max n m) s i) := by
  unfold addN
  by_cases h : validB x k = true ∧ validB y j = true
  · obtain ⟨n, rfl, _⟩ := valid_nat h.1
    obtain ⟨m, rfl, _⟩ := valid_nat h.2
    rw [if_pos h, max_cast]
    rcases made_cases (addK x n y m) ((max n m : Nat) : Int) with ⟨s, i, hm, hv⟩ | hm
    · right
      obtain ⟨i', h1, h2, h3⟩ := made_val hm rfl
      simp only at h1 h2 h3
      subst h1
      exact ⟨n, m, i', s, rfl, rfl, h.1, h.2, hm, hv, h2⟩
    · exact .inl ⟨4, by decide, hm⟩
  · rw [if_neg h]
    exact .inl ⟨10, by decide, rfl⟩
theorem mulN_cases (x y : C4) (k j : Int) : (∃ e, e ≠ 0 ∧ mulN x k y j = fail e) ∨ (∃ n m i : Nat, ∃ s, k = n ∧ j = m ∧ validB x k = true ∧ validB y j = true ∧ mulN x k y j = ⟨s, i, 0⟩ ∧ validB s i = true ∧ Same (mulC x y) (n + m) s i) := by
  unfold mulN
  by_cases h : validB x k = true ∧ validB y j = true
  · obtain ⟨n, rfl, _⟩ := valid_nat h.1
    obtain ⟨m, rfl, _⟩ := valid_nat h.2
    rw [if_pos h, show (n : Int) + m = ((n + m : Nat) : Int) by omega]
    rcases made_cases (mulC x y) ((n + m : Nat) : Int) with ⟨s, i, hm, hv⟩ | hm
    · right
      obtain ⟨i', h1, h2, h3⟩ := made_val hm rfl
      simp only at h1 h2 h3
      subst h1
      exact ⟨n, m, i', s, rfl, rfl, h.1, h.2, hm, hv, h2⟩
    · exact .inl ⟨4, by decide, hm⟩
  · rw [if_neg h]
    exact .inl ⟨10, by decide, rfl⟩
theorem valid_neg (x : C4) (k : Int) : validB (negC x) k = validB x k := by
  have h1 : smallB (negC x) = smallB x := by
    rw [Bool.eq_iff_iff]
    constructor
    · intro h
      have := small_neg h
      simpa [negC] using this
    · exact small_neg
  have h2 : evenB (negC x) = evenB x := by
    simp only [evenB, negC]
    congr 1
    simp only [eq_iff_iff]
    omega
  simp only [validB, h1, h2]
/-- A difference undoes a sum. -/
theorem sub_add {x y s : C4} {n m i : Nat} (hx : validB x n = true) (hy : validB y m = true) (hs : validB s i = true) (h : Same (addK x n y m) (max n m) s i) : subN s i y m = ⟨x, n, 0⟩ := by
  have h1 : subN s i y m = made (addK s i (negC y) m) (max (i : Int) m) := if_pos ⟨hs, hy⟩
  rw [h1, max_cast, ← made_valid hx]
  apply made_same
  refine (Same.addK h.symm (Same.refl (negC y) m)).trans ?_
  have hN : n ≤ n + m := by omega
  refine (same_addK (addK x n y m) (negC y) (max n m) m (n + m) (by omega) (by omega)).trans ?_
  refine ⟨0, m, by omega, ?_⟩
  show addC (rpow (n + m - max n m) (addK x n y m)) (rpow (n + m - m) (negC y)) = rpow m x
  rw [addK_nat, rpow_add, rpow_rpow, rpow_rpow, rpow_neg, show n + m - max n m + (max n m - m) = n + m - m by omega, addC_neg, show n + m - max n m + (max n m - n) = m by omega]
/-- A product of a sum is the sum of the products. -/
theorem distrib {x y z s p q l r : C4} {n m i a b c d e : Nat} (hs : Same (addK x n y m) (max n m) s a) (hl : Same (mulC s z) (a + i) l b) (hp : Same (mulC x z) (n + i) p c) (hq : Same (mulC y z) (m + i) q d) (hr : Same (addK p c q d) (max c d) r e) : Same l b r e := by
  refine hl.symm.trans (Same.trans ?_ hr)
  refine (Same.mul hs.symm (Same.refl z i)).trans (Same.trans ?_ (Same.addK hp hq))
  refine Same.trans ?_ (same_addK (mulC x z) (mulC y z) (n + i) (m + i) (max n m + i) (by omega) (by omega)).symm
  refine ⟨0, 0, by omega, ?_⟩
  show mulC (addK x n y m) z = addC (rpow (max n m + i - (n + i)) (mulC x z)) (rpow (max n m + i - (m + i)) (mulC y z))
  rw [addK_nat, mul_add', mul_rpow, mul_rpow, show max n m + i - (n + i) = max n m - n by omega, show max n m + i - (m + i) = max n m - m by omega]
end Amp

/- Layer 1, plainly: mirrors of numbers. No condition. -/

namespace Amp
theorem neg_neg' (x : C4) : negC (negC x) = x := by
  refine C4.ext' ?_ ?_ ?_ ?_ <;> simp only [negC] <;> omega
theorem conj_conj (x : C4) : conjC (conjC x) = x := by
  refine C4.ext' ?_ ?_ ?_ ?_ <;> simp only [conjC] <;> omega
theorem flip_flip (x : C4) : flipC (flipC x) = x := by
  refine C4.ext' ?_ ?_ ?_ ?_ <;> simp only [flipC] <;> omega
theorem flip_neg (x : C4) : flipC (negC x) = negC (flipC x) := by
  refine C4.ext' ?_ ?_ ?_ ?_ <;> simp only [flipC, negC]
theorem flipK_flipK (x : C4) (k : Int) : flipK (flipK x k) k = x := by
  unfold flipK
  by_cases h : k % 2 = 1
  · rw [if_pos h, if_pos h, flip_neg, flip_flip, neg_neg']
  · rw [if_neg h, if_neg h, flip_flip]
theorem valid_conj (x : C4) (k : Int) : validB (conjC x) k = validB x k := by
  have h1 : smallB (conjC x) = smallB x := by
    rw [Bool.eq_iff_iff]
    constructor
    · intro h
      have := small_conj h
      simpa [conjC] using this
    · exact small_conj
  have h2 : evenB (conjC x) = evenB x := by
    simp only [evenB, conjC]
    congr 1
    simp only [eq_iff_iff]
    omega
  simp only [validB, h1, h2]
theorem valid_flipK (x : C4) (k : Int) : validB (flipK x k) k = validB x k := by
  unfold flipK
  by_cases h : k % 2 = 1
  · rw [if_pos h, valid_neg, valid_flip]
  · rw [if_neg h, valid_flip]
theorem rot8 (x : C4) : turnC 8 x = x := by
  refine C4.ext' ?_ ?_ ?_ ?_ <;> simp only [turnC, rotC] <;> omega
theorem turn_add : ∀ (p q : Nat) (x : C4), turnC p (turnC q x) = turnC (q + p) x
  | p, 0, x => by rw [Nat.zero_add]; rfl
  | p, q + 1, x => by
    show turnC p (turnC q (rotC x)) = turnC (q + 1 + p) x
    rw [turn_add p q, show q + 1 + p = (q + p) + 1 by omega]
    rfl
theorem turn_back (m : Int) (x : C4) : turnC (-m % 8).toNat (turnC (m % 8).toNat x) = x := by
  rw [turn_add]
  have h : (m % 8).toNat + (-m % 8).toNat = 0 ∨ (m % 8).toNat + (-m % 8).toNat = 8 := by omega
  rcases h with h | h
  · rw [h]; rfl
  · rw [h, rot8]
theorem valid_rot (x : C4) (k : Int) : validB (rotC x) k = validB x k := by
  have h1 : smallB (rotC x) = smallB x := by
    rw [Bool.eq_iff_iff]
    constructor
    · intro h
      have := small_rot (small_rot (small_rot (small_rot (small_rot (small_rot (small_rot h))))))
      have e : rotC (rotC (rotC (rotC (rotC (rotC (rotC (rotC x))))))) = x := rot8 x
      rwa [e] at this
    · exact small_rot
  have h2 : evenB (rotC x) = evenB x := by
    simp only [evenB, rotC]
    congr 1
    simp only [eq_iff_iff]
    omega
  simp only [validB, h1, h2]
theorem valid_turn : ∀ (n : Nat) (x : C4) (k : Int), validB (turnC n x) k = validB x k
  | 0, _, _ => rfl
  | n + 1, x, k => (valid_turn n (rotC x) k).trans (valid_rot x k)

def sgnC (n : Nat) (x : C4) : C4 := if n % 2 = 1 then negC x else x
theorem flipK_nat (x : C4) (k : Nat) : flipK x k = sgnC k (flipC x) := by
  unfold flipK sgnC
  by_cases h : k % 2 = 1
  · rw [if_pos h, if_pos (by omega)]
  · rw [if_neg h, if_neg (by omega)]
theorem sgn_neg (n : Nat) (x : C4) : sgnC n (negC x) = sgnC (n + 1) x := by
  unfold sgnC
  by_cases h : n % 2 = 1
  · rw [if_pos h, if_neg (by omega), neg_neg']
  · rw [if_neg h, if_pos (by omega)]
theorem sgn_sgn (m n : Nat) (x : C4) : sgnC m (sgnC n x) = sgnC (m + n) x := by
  by_cases h : n % 2 = 1
  · rw [show sgnC n x = negC x from if_pos h, sgn_neg]
    unfold sgnC
    congr 1
    simp only [eq_iff_iff]; omega
  · rw [show sgnC n x = x from if_neg h]
    unfold sgnC
    congr 1
    simp only [eq_iff_iff]; omega
theorem root_neg (x : C4) : root (negC x) = negC (root x) := rpow_neg 1 x
theorem flip_root (x : C4) : flipC (root x) = negC (root (flipC x)) := by
  refine C4.ext' ?_ ?_ ?_ ?_ <;> simp only [flipC, root, negC] <;> omega
theorem rpow_sgn (m n : Nat) (x : C4) : rpow m (sgnC n x) = sgnC n (rpow m x) := by
  unfold sgnC
  by_cases h : n % 2 = 1
  · rw [if_pos h, if_pos h, rpow_neg]
  · rw [if_neg h, if_neg h]
theorem flip_rpow : ∀ (n : Nat) (x : C4), flipC (rpow n x) = sgnC n (rpow n (flipC x))
  | 0, _ => rfl
  | n + 1, x => by
    show flipC (rpow n (root x)) = sgnC (n + 1) (rpow n (root (flipC x)))
    rw [flip_rpow n, flip_root, rpow_neg, sgn_neg]
theorem Same.flip {x y : C4} {k j : Nat} (h : Same x k y j) : Same (flipK x k) k (flipK y j) j := by
  obtain ⟨m, n, h1, h2⟩ := h
  refine ⟨m, n, h1, ?_⟩
  have e : ∀ (x : C4) (k m : Nat), rpow m (flipK x k) = sgnC (k + m) (flipC (rpow m x)) := fun x k m => by
    rw [flipK_nat, rpow_sgn, flip_rpow, sgn_sgn]
    unfold sgnC
    congr 1
    simp only [eq_iff_iff]; omega
  rw [e, e, h1, h2]
theorem flip_mul (x y : C4) : flipC (mulC x y) = mulC (flipC x) (flipC y) := by
  refine C4.ext' ?_ ?_ ?_ ?_ <;> simp only [flipC, mulC] <;> grind
theorem mul_neg (x y : C4) : mulC (negC x) y = negC (mulC x y) := by
  refine C4.ext' ?_ ?_ ?_ ?_ <;> simp only [negC, mulC] <;> grind
theorem mul_sgn (n : Nat) (x y : C4) : mulC (sgnC n x) y = sgnC n (mulC x y) := by
  unfold sgnC
  by_cases h : n % 2 = 1
  · rw [if_pos h, if_pos h, mul_neg]
  · rw [if_neg h, if_neg h]
theorem flipK_mul (x y : C4) (k j : Nat) : mulC (flipK x k) (flipK y j) = flipK (mulC x y) ((k + j : Nat) : Int) := by
  rw [flipK_nat, flipK_nat, flipK_nat, mul_sgn, mul_comm', mul_sgn, mul_comm', sgn_sgn, flip_mul]
/-- Conj and Flip of a product. -/
theorem mul_conj {x y s : C4} {n m i : Nat} (hx : validB x n = true) (hy : validB y m = true) (hs : validB s i = true) (h : Same (mulC x y) (n + m) s i) : mulN (conjC x) n (conjC y) m = ⟨conjC s, i, 0⟩ := by
  have h1 : mulN (conjC x) n (conjC y) m = made (mulC (conjC x) (conjC y)) ((n : Int) + m) := if_pos ⟨by rw [valid_conj]; exact hx, by rw [valid_conj]; exact hy⟩
  rw [h1, show (n : Int) + m = ((n + m : Nat) : Int) by omega, ← conj_mul, made_same h.conj, made_valid (by rw [valid_conj]; exact hs)]
theorem mul_flip {x y s : C4} {n m i : Nat} (hx : validB x n = true) (hy : validB y m = true) (hs : validB s i = true) (h : Same (mulC x y) (n + m) s i) : mulN (flipK x n) n (flipK y m) m = ⟨flipK s i, i, 0⟩ := by
  have h1 : mulN (flipK x n) n (flipK y m) m = made (mulC (flipK x n) (flipK y m)) ((n : Int) + m) := if_pos ⟨by rw [valid_flipK]; exact hx, by rw [valid_flipK]; exact hy⟩
  rw [h1, show (n : Int) + m = ((n + m : Nat) : Int) by omega, flipK_mul, made_same h.flip, made_valid (by rw [valid_flipK]; exact hs)]
end Amp
