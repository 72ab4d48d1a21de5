/- Layer 1, plainly: the order of two numbers plays no part; a difference undoes a sum; a product of a sum is the sum of the products. No condition. -/
import Derived.Test.YtecnidnaokbaiaaAmpAlg
namespace Amp
theorem addN_comm (x y : C4) (k j : Int) : addN x k y j = addN y j x k := by
  unfold addN
  by_cases h : validB x k = true ∧ validB y j = true
  · obtain ⟨n, rfl, _⟩ := valid_nat h.1
    obtain ⟨m, rfl, _⟩ := valid_nat h.2
    rw [if_pos h, if_pos h.symm, addK_nat, addK_nat, addC_comm, max_cast, max_cast, Nat.max_comm]
  · rw [if_neg h, if_neg (fun h' => h h'.symm)]
theorem mulN_comm (x y : C4) (k j : Int) : mulN x k y j = mulN y j x k := by
  unfold mulN
  by_cases h : validB x k = true ∧ validB y j = true
  · rw [if_pos h, if_pos h.symm, mul_comm', Int.add_comm]
  · rw [if_neg h, if_neg (fun h' => h h'.symm)]
theorem addN_cases (x y : C4) (k j : Int) : (∃ e, e ≠ 0 ∧ addN x k y j = fail e) ∨ (∃ n m i : Nat, ∃ s, k = n ∧ j = m ∧ validB x k = true ∧ validB y j = true ∧ addN x k y j = ⟨s, i, 0⟩ ∧ validB s i = true ∧ Same (addK x n y m) (max n m) s i) := by
  unfold addN
  by_cases h : validB x k = true ∧ validB y j = true
  · obtain ⟨n, rfl, _⟩ := valid_nat h.1
    obtain ⟨m, rfl, _⟩ := valid_nat h.2
    rw [if_pos h, max_cast]
    rcases made_cases (addK x n y m) ((max n m : Nat) : Int) with ⟨s, i, hm, hv⟩ | hm
    · right
      obtain ⟨i', h1, h2, h3⟩ := made_val hm rfl
      simp only at h1 h2 h3
      subst h1
      exact ⟨n, m, i', s, rfl, rfl, h.1, h.2, hm, hv, h2⟩
    · exact .inl ⟨4, by decide, hm⟩
  · rw [if_neg h]
    exact .inl ⟨10, by decide, rfl⟩
theorem mulN_cases (x y : C4) (k j : Int) : (∃ e, e ≠ 0 ∧ mulN x k y j = fail e) ∨ (∃ n m i : Nat, ∃ s, k = n ∧ j = m ∧ validB x k = true ∧ validB y j = true ∧ mulN x k y j = ⟨s, i, 0⟩ ∧ validB s i = true ∧ Same (mulC x y) (n + m) s i) := by
  unfold mulN
  by_cases h : validB x k = true ∧ validB y j = true
  · obtain ⟨n, rfl, _⟩ := valid_nat h.1
    obtain ⟨m, rfl, _⟩ := valid_nat h.2
    rw [if_pos h, show (n : Int) + m = ((n + m : Nat) : Int) by omega]
    rcases made_cases (mulC x y) ((n + m : Nat) : Int) with ⟨s, i, hm, hv⟩ | hm
    · right
      obtain ⟨i', h1, h2, h3⟩ := made_val hm rfl
      simp only at h1 h2 h3
      subst h1
      exact ⟨n, m, i', s, rfl, rfl, h.1, h.2, hm, hv, h2⟩
    · exact .inl ⟨4, by decide, hm⟩
  · rw [if_neg h]
    exact .inl ⟨10, by decide, rfl⟩
theorem valid_neg (x : C4) (k : Int) : validB (negC x) k = validB x k := by
  have h1 : smallB (negC x) = smallB x := by
    rw [Bool.eq_iff_iff]
    constructor
    · intro h
      have := small_neg h
      simpa [negC] using this
    · exact small_neg
  have h2 : evenB (negC x) = evenB x := by
    simp only [evenB, negC]
    congr 1
    simp only [eq_iff_iff]
    omega
  simp only [validB, h1, h2]
/-- A difference undoes a sum. -/
theorem sub_add {x y s : C4} {n m i : Nat} (hx : validB x n = true) (hy : validB y m = true) (hs : validB s i = true) (h : Same (addK x n y m) (max n m) s i) : subN s i y m = ⟨x, n, 0⟩ := by
  have h1 : subN s i y m = made (addK s i (negC y) m) (max (i : Int) m) := if_pos ⟨hs, hy⟩
  rw [h1, max_cast, ← made_valid hx]
  apply made_same
  refine (Same.addK h.symm (Same.refl (negC y) m)).trans ?_
  have hN : n ≤ n + m := by omega
  refine (same_addK (addK x n y m) (negC y) (max n m) m (n + m) (by omega) (by omega)).trans ?_
  refine ⟨0, m, by omega, ?_⟩
  show addC (rpow (n + m - max n m) (addK x n y m)) (rpow (n + m - m) (negC y)) = rpow m x
  rw [addK_nat, rpow_add, rpow_rpow, rpow_rpow, rpow_neg, show n + m - max n m + (max n m - m) = n + m - m by omega, addC_neg, show n + m - max n m + (max n m - n) = m by omega]
/-- A product of a sum is the sum of the products. -/
theorem distrib {x y z s p q l r : C4} {n m i a b c d e : Nat} (hs : Same (addK x n y m) (max n m) s a) (hl : Same (mulC s z) (a + i) l b) (hp : Same (mulC x z) (n + i) p c) (hq : Same (mulC y z) (m + i) q d) (hr : Same (addK p c q d) (max c d) r e) : Same l b r e := by
  refine hl.symm.trans (Same.trans ?_ hr)
  refine (Same.mul hs.symm (Same.refl z i)).trans (Same.trans ?_ (Same.addK hp hq))
  refine Same.trans ?_ (same_addK (mulC x z) (mulC y z) (n + i) (m + i) (max n m + i) (by omega) (by omega)).symm
  refine ⟨0, 0, by omega, ?_⟩
  show mulC (addK x n y m) z = addC (rpow (max n m + i - (n + i)) (mulC x z)) (rpow (max n m + i - (m + i)) (mulC y z))
  rw [addK_nat, mul_add', mul_rpow, mul_rpow, show max n m + i - (n + i) = max n m - n by omega, show max n m + i - (m + i) = max n m - m by omega]
end Amp
