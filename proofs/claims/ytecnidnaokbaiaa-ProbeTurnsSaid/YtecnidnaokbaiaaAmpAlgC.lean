/- Layer 1, plainly: mirrors of numbers. No condition. -/
import Derived.Test.YtecnidnaokbaiaaAmpAlgB
namespace Amp
theorem neg_neg' (x : C4) : negC (negC x) = x := by
  refine C4.ext' ?_ ?_ ?_ ?_ <;> simp only [negC] <;> omega
theorem conj_conj (x : C4) : conjC (conjC x) = x := by
  refine C4.ext' ?_ ?_ ?_ ?_ <;> simp only [conjC] <;> omega
theorem flip_flip (x : C4) : flipC (flipC x) = x := by
  refine C4.ext' ?_ ?_ ?_ ?_ <;> simp only [flipC] <;> omega
theorem flip_neg (x : C4) : flipC (negC x) = negC (flipC x) := by
  refine C4.ext' ?_ ?_ ?_ ?_ <;> simp only [flipC, negC]
theorem flipK_flipK (x : C4) (k : Int) : flipK (flipK x k) k = x := by
  unfold flipK
  by_cases h : k % 2 = 1
  · rw [if_pos h, if_pos h, flip_neg, flip_flip, neg_neg']
  · rw [if_neg h, if_neg h, flip_flip]
theorem valid_conj (x : C4) (k : Int) : validB (conjC x) k = validB x k := by
  have h1 : smallB (conjC x) = smallB x := by
    rw [Bool.eq_iff_iff]
    constructor
    · intro h
      have := small_conj h
      simpa [conjC] using this
    · exact small_conj
  have h2 : evenB (conjC x) = evenB x := by
    simp only [evenB, conjC]
    congr 1
    simp only [eq_iff_iff]
    omega
  simp only [validB, h1, h2]
theorem valid_flipK (x : C4) (k : Int) : validB (flipK x k) k = validB x k := by
  unfold flipK
  by_cases h : k % 2 = 1
  · rw [if_pos h, valid_neg, valid_flip]
  · rw [if_neg h, valid_flip]
theorem rot8 (x : C4) : turnC 8 x = x := by
  refine C4.ext' ?_ ?_ ?_ ?_ <;> simp only [turnC, rotC] <;> omega
theorem turn_add : ∀ (p q : Nat) (x : C4), turnC p (turnC q x) = turnC (q + p) x
  | p, 0, x => by rw [Nat.zero_add]; rfl
  | p, q + 1, x => by
    show turnC p (turnC q (rotC x)) = turnC (q + 1 + p) x
    rw [turn_add p q, show q + 1 + p = (q + p) + 1 by omega]
    rfl
theorem turn_back (m : Int) (x : C4) : turnC (-m % 8).toNat (turnC (m % 8).toNat x) = x := by
  rw [turn_add]
  have h : (m % 8).toNat + (-m % 8).toNat = 0 ∨ (m % 8).toNat + (-m % 8).toNat = 8 := by omega
  rcases h with h | h
  · rw [h]; rfl
  · rw [h, rot8]
theorem valid_rot (x : C4) (k : Int) : validB (rotC x) k = validB x k := by
  have h1 : smallB (rotC x) = smallB x := by
    rw [Bool.eq_iff_iff]
    constructor
    · intro h
      have := small_rot (small_rot (small_rot (small_rot (small_rot (small_rot (small_rot h))))))
      have e : rotC (rotC (rotC (rotC (rotC (rotC (rotC (rotC x))))))) = x := rot8 x
      rwa [e] at this
    · exact small_rot
  have h2 : evenB (rotC x) = evenB x := by
    simp only [evenB, rotC]
    congr 1
    simp only [eq_iff_iff]
    omega
  simp only [validB, h1, h2]
theorem valid_turn : ∀ (n : Nat) (x : C4) (k : Int), validB (turnC n x) k = validB x k
  | 0, _, _ => rfl
  | n + 1, x, k => (valid_turn n (rotC x) k).trans (valid_rot x k)

def sgnC (n : Nat) (x : C4) : C4 := if n % 2 = 1 then negC x else x
theorem flipK_nat (x : C4) (k : Nat) : flipK x k = sgnC k (flipC x) := by
  unfold flipK sgnC
  by_cases h : k % 2 = 1
  · rw [if_pos h, if_pos (by omega)]
  · rw [if_neg h, if_neg (by omega)]
theorem sgn_neg (n : Nat) (x : C4) : sgnC n (negC x) = sgnC (n + 1) x := by
  unfold sgnC
  by_cases h : n % 2 = 1
  · rw [if_pos h, if_neg (by omega), neg_neg']
  · rw [if_neg h, if_pos (by omega)]
theorem sgn_sgn (m n : Nat) (x : C4) : sgnC m (sgnC n x) = sgnC (m + n) x := by
  by_cases h : n % 2 = 1
  · rw [show sgnC n x = negC x from if_pos h, sgn_neg]
    unfold sgnC
    congr 1
    simp only [eq_iff_iff]; omega
  · rw [show sgnC n x = x from if_neg h]
    unfold sgnC
    congr 1
    simp only [eq_iff_iff]; omega
theorem root_neg (x : C4) : root (negC x) = negC (root x) := rpow_neg 1 x
theorem flip_root (x : C4) : flipC (root x) = negC (root (flipC x)) := by
  refine C4.ext' ?_ ?_ ?_ ?_ <;> simp only [flipC, root, negC] <;> omega
theorem rpow_sgn (m n : Nat) (x : C4) : rpow m (sgnC n x) = sgnC n (rpow m x) := by
  unfold sgnC
  by_cases h : n % 2 = 1
  · rw [if_pos h, if_pos h, rpow_neg]
  · rw [if_neg h, if_neg h]
theorem flip_rpow : ∀ (n : Nat) (x : C4), flipC (rpow n x) = sgnC n (rpow n (flipC x))
  | 0, _ => rfl
  | n + 1, x => by
    show flipC (rpow n (root x)) = sgnC (n + 1) (rpow n (root (flipC x)))
    rw [flip_rpow n, flip_root, rpow_neg, sgn_neg]
theorem Same.flip {x y : C4} {k j : Nat} (h : Same x k y j) : Same (flipK x k) k (flipK y j) j := by
  obtain ⟨m, n, h1, h2⟩ := h
  refine ⟨m, n, h1, ?_⟩
  have e : ∀ (x : C4) (k m : Nat), rpow m (flipK x k) = sgnC (k + m) (flipC (rpow m x)) := fun x k m => by
    rw [flipK_nat, rpow_sgn, flip_rpow, sgn_sgn]
    unfold sgnC
    congr 1
    simp only [eq_iff_iff]; omega
  rw [e, e, h1, h2]
theorem flip_mul (x y : C4) : flipC (mulC x y) = mulC (flipC x) (flipC y) := by
  refine C4.ext' ?_ ?_ ?_ ?_ <;> simp only [flipC, mulC] <;> grind
theorem mul_neg (x y : C4) : mulC (negC x) y = negC (mulC x y) := by
  refine C4.ext' ?_ ?_ ?_ ?_ <;> simp only [negC, mulC] <;> grind
theorem mul_sgn (n : Nat) (x y : C4) : mulC (sgnC n x) y = sgnC n (mulC x y) := by
  unfold sgnC
  by_cases h : n % 2 = 1
  · rw [if_pos h, if_pos h, mul_neg]
  · rw [if_neg h, if_neg h]
theorem flipK_mul (x y : C4) (k j : Nat) : mulC (flipK x k) (flipK y j) = flipK (mulC x y) ((k + j : Nat) : Int) := by
  rw [flipK_nat, flipK_nat, flipK_nat, mul_sgn, mul_comm', mul_sgn, mul_comm', sgn_sgn, flip_mul]
/-- Conj and Flip of a product. -/
theorem mul_conj {x y s : C4} {n m i : Nat} (hx : validB x n = true) (hy : validB y m = true) (hs : validB s i = true) (h : Same (mulC x y) (n + m) s i) : mulN (conjC x) n (conjC y) m = ⟨conjC s, i, 0⟩ := by
  have h1 : mulN (conjC x) n (conjC y) m = made (mulC (conjC x) (conjC y)) ((n : Int) + m) := if_pos ⟨by rw [valid_conj]; exact hx, by rw [valid_conj]; exact hy⟩
  rw [h1, show (n : Int) + m = ((n + m : Nat) : Int) by omega, ← conj_mul, made_same h.conj, made_valid (by rw [valid_conj]; exact hs)]
theorem mul_flip {x y s : C4} {n m i : Nat} (hx : validB x n = true) (hy : validB y m = true) (hs : validB s i = true) (h : Same (mulC x y) (n + m) s i) : mulN (flipK x n) n (flipK y m) m = ⟨flipK s i, i, 0⟩ := by
  have h1 : mulN (flipK x n) n (flipK y m) m = made (mulC (flipK x n) (flipK y m)) ((n : Int) + m) := if_pos ⟨by rw [valid_flipK]; exact hx, by rw [valid_flipK]; exact hy⟩
  rw [h1, show (n : Int) + m = ((n + m : Nat) : Int) by omega, flipK_mul, made_same h.flip, made_valid (by rw [valid_flipK]; exact hs)]
end Amp
