/- Layer 1, plainly: one form at most for each number; sums and products are those of a ring. No condition. -/
import Derived.Test.YtecnidnaokbaiaaAmpPlainF
namespace Amp
def addC (x y : C4) : C4 := ⟨x.a + y.a, x.b + y.b, x.c + y.c, x.d + y.d⟩
theorem root_add (x y : C4) : root (addC x y) = addC (root x) (root y) := by
  refine C4.ext' ?_ ?_ ?_ ?_ <;> simp only [root, addC] <;> omega
theorem rpow_add : ∀ (n : Nat) (x y : C4), rpow n (addC x y) = addC (rpow n x) (rpow n y)
  | 0, _, _ => rfl
  | n + 1, x, y => by show rpow n (root (addC x y)) = _; rw [root_add, rpow_add n]; rfl
theorem dbl_inj {x y : C4} (h : dbl x = dbl y) : x = y := by
  simp only [dbl, C4.mk.injEq] at h
  exact C4.ext' (by omega) (by omega) (by omega) (by omega)
theorem root_inj {x y : C4} (h : root x = root y) : x = y := by
  apply dbl_inj
  rw [← root_root, ← root_root, h]
theorem rpow_inj : ∀ (n : Nat) {x y : C4}, rpow n x = rpow n y → x = y
  | 0, _, _, h => h
  | n + 1, _, _, h => root_inj (rpow_inj n h)
theorem rpow_rpow : ∀ (m n : Nat) (x : C4), rpow m (rpow n x) = rpow (m + n) x
  | m, 0, x => rfl
  | m, n + 1, x => by show rpow m (rpow n (root x)) = rpow (m + n) (root x); exact rpow_rpow m n (root x)

theorem half_dbl (x : C4) : half (dbl x) = x := by
  refine C4.ext' ?_ ?_ ?_ ?_ <;> simp only [half, dbl] <;> exact Int.mul_tdiv_cancel _ (by decide)
theorem even_root (x : C4) : evenB (root x) = true := by
  refine decide_eq_true ⟨?_, ?_⟩ <;> simp only [root] <;> omega
theorem red_root (k : Nat) (x : C4) : red (k + 1) (root x) = red k x := by
  show (if evenB (root x) = true then red k (half (root (root x))) else (root x, k + 1)) = red k x
  rw [if_pos (even_root x), root_root, half_dbl]
theorem red_rpow (k : Nat) : ∀ (n : Nat) (x : C4), red (k + n) (rpow n x) = red k x
  | 0, _ => rfl
  | n + 1, x => by
    rw [rpow_succ, show k + (n + 1) = (k + n) + 1 by omega, red_root]
    exact red_rpow k n x
theorem root_half {x : C4} (h : evenB x = true) : root (half (root x)) = x := by
  simp only [evenB, decide_eq_true_eq] at h
  have h1 := tdiv2_even (x.b - x.d) (by omega)
  have h2 := tdiv2_even (x.a + x.c) (by omega)
  have h3 := tdiv2_even (x.b + x.d) (by omega)
  have h4 := tdiv2_even (x.c - x.a) (by omega)
  refine C4.ext' ?_ ?_ ?_ ?_ <;> simp only [root, half] <;> omega
theorem red_val : ∀ (k : Nat) (x : C4), rpow (k - (red k x).2) (red k x).1 = x
  | 0, x => rfl
  | k + 1, x => by
    by_cases h : evenB x = true
    · have e : red (k + 1) x = red k (half (root x)) := if_pos h
      rw [e, show k + 1 - (red k (half (root x))).2 = (k - (red k (half (root x))).2) + 1 by have := red_le k (half (root x)); omega, rpow_succ, red_val k, root_half h]
    · have e : red (k + 1) x = (x, k + 1) := if_neg h
      rw [e, Nat.sub_self]; rfl

/-- Two sums over powers of the root are one number. -/
def Same (x : C4) (k : Nat) (y : C4) (j : Nat) : Prop := ∃ m n, k + m = j + n ∧ rpow m x = rpow n y
theorem Same.refl (x : C4) (k : Nat) : Same x k x k := ⟨0, 0, rfl, rfl⟩
theorem Same.symm {x y : C4} {k j : Nat} (h : Same x k y j) : Same y j x k := by
  obtain ⟨m, n, h1, h2⟩ := h; exact ⟨n, m, h1.symm, h2.symm⟩
theorem Same.trans {x y z : C4} {k j i : Nat} (h : Same x k y j) (h' : Same y j z i) : Same x k z i := by
  obtain ⟨m, n, h1, h2⟩ := h
  obtain ⟨m', n', h3, h4⟩ := h'
  refine ⟨m + m', n + n', by omega, ?_⟩
  rw [Nat.add_comm m m', ← rpow_rpow m' m, h2, rpow_rpow, Nat.add_comm m' n, ← rpow_rpow n m', h4, rpow_rpow]
theorem Same.up (x : C4) (k n : Nat) : Same (rpow n x) (k + n) x k := ⟨0, n, by omega, rfl⟩
theorem Same.add {x y x' y' : C4} {k j : Nat} (h : Same x k x' j) (h' : Same y k y' j) : Same (addC x y) k (addC x' y') j := by
  obtain ⟨m, n, h1, h2⟩ := h
  obtain ⟨m', n', h3, h4⟩ := h'
  refine ⟨m' + m, m' + n, by omega, ?_⟩
  rw [rpow_add, rpow_add]
  have e1 : rpow (m' + m) x = rpow (m' + n) x' := by rw [← rpow_rpow, h2, rpow_rpow]
  have e2 : rpow (m' + m) y = rpow (m' + n) y' := by
    rw [Nat.add_comm m' m, ← rpow_rpow, h4, rpow_rpow, show m + n' = m' + n by omega]
  rw [e1, e2]
theorem mul_root (x y : C4) : mulC (root x) y = root (mulC x y) := by
  refine C4.ext' ?_ ?_ ?_ ?_ <;> simp only [mulC, root] <;> grind
theorem mul_comm' (x y : C4) : mulC x y = mulC y x := by
  refine C4.ext' ?_ ?_ ?_ ?_ <;> simp only [mulC] <;> grind
theorem mul_add' (x y z : C4) : mulC (addC x y) z = addC (mulC x z) (mulC y z) := by
  refine C4.ext' ?_ ?_ ?_ ?_ <;> simp only [mulC, addC] <;> grind
theorem mul_rpow : ∀ (n : Nat) (x y : C4), mulC (rpow n x) y = rpow n (mulC x y)
  | 0, _, _ => rfl
  | n + 1, x, y => by
    show mulC (rpow n (root x)) y = rpow n (root (mulC x y))
    rw [mul_rpow n, mul_root]
theorem mul_rpow' (n : Nat) (x y : C4) : mulC x (rpow n y) = rpow n (mulC x y) := by
  rw [mul_comm', mul_rpow, mul_comm']
theorem Same.mul {x y x' y' : C4} {k j k' j' : Nat} (h : Same x k x' k') (h' : Same y j y' j') : Same (mulC x y) (k + j) (mulC x' y') (k' + j') := by
  obtain ⟨m, n, h1, h2⟩ := h
  obtain ⟨m', n', h3, h4⟩ := h'
  refine ⟨m' + m, n' + n, by omega, ?_⟩
  rw [← rpow_rpow m' m, ← mul_rpow m, ← mul_rpow', ← rpow_rpow n' n, ← mul_rpow n, ← mul_rpow', h2, h4]
theorem conj_root (x : C4) : conjC (root x) = root (conjC x) := by
  refine C4.ext' ?_ ?_ ?_ ?_ <;> simp only [conjC, root] <;> omega
theorem conj_rpow : ∀ (n : Nat) (x : C4), conjC (rpow n x) = rpow n (conjC x)
  | 0, _ => rfl
  | n + 1, x => by show conjC (rpow n (root x)) = rpow n (root (conjC x)); rw [conj_rpow n, conj_root]
theorem conj_mul (x y : C4) : conjC (mulC x y) = mulC (conjC x) (conjC y) := by
  refine C4.ext' ?_ ?_ ?_ ?_ <;> simp only [conjC, mulC] <;> grind
theorem Same.conj {x y : C4} {k j : Nat} (h : Same x k y j) : Same (conjC x) k (conjC y) j := by
  obtain ⟨m, n, h1, h2⟩ := h
  exact ⟨m, n, h1, by rw [← conj_rpow, ← conj_rpow, h2]⟩
theorem Same.neg {x y : C4} {k j : Nat} (h : Same x k y j) : Same (negC x) k (negC y) j := by
  obtain ⟨m, n, h1, h2⟩ := h
  exact ⟨m, n, h1, by rw [rpow_neg, rpow_neg, h2]⟩

/-- The form of a number hangs on the number alone. -/
theorem made_same {x y : C4} {k j : Nat} (h : Same x k y j) : made x k = made y j := by
  obtain ⟨m, n, h1, h2⟩ := h
  have e : red k x = red j y := by
    rw [← red_rpow k m, h1, h2, red_rpow]
  unfold made
  simp only [Int.toNat_natCast, e]
theorem made_valid {x : C4} {k : Nat} (h : validB x k = true) : made x k = ⟨x, k, 0⟩ := by
  have e : red k x = (x, k) := by
    apply red_valid
    simp only [validB, Bool.and_eq_true, Bool.or_eq_true, decide_eq_true_eq, Bool.not_eq_true'] at h
    exact h.2.imp (fun h => by omega) id
  unfold made
  simp only [Int.toNat_natCast, e, h, if_true]
/-- What a form stands for. -/
theorem made_val {x : C4} {k : Nat} {r : Res} (h : made x k = r) (he : r.e = 0) : ∃ m : Nat, r.k = m ∧ Same x k r.x m ∧ validB r.x m = true := by
  unfold made at h
  simp only [Int.toNat_natCast] at h
  split at h
  · rename_i hv
    subst h
    refine ⟨(red k x).2, rfl, ⟨0, k - (red k x).2, ?_, ?_⟩, hv⟩
    · have := red_le k x; omega
    · exact (red_val k x).symm
  · subst h
    simp [fail] at he
theorem form_uniq {x y : C4} {k j : Nat} (hx : validB x k = true) (hy : validB y j = true) (h : Same x k y j) : x = y ∧ k = j := by
  have h1 := made_valid hx
  rw [made_same h, made_valid hy] at h1
  simp only [Res.mk.injEq] at h1
  exact ⟨h1.1.symm, by omega⟩
theorem valid_nat {x : C4} {k : Int} (h : validB x k = true) : ∃ n : Nat, k = n ∧ n ≤ 40 := by
  obtain ⟨h1, h2⟩ := validB_k h
  exact ⟨k.toNat, by omega, by omega⟩

theorem addK_nat (x y : C4) (k j : Nat) : addK x k y j = addC (rpow (max k j - k) x) (rpow (max k j - j) y) := by
  have h : (max (k : Int) (j : Int)) = ((max k j : Nat) : Int) := by omega
  unfold addK addC
  rw [h, show ((max k j : Nat) : Int) - k = ((max k j - k : Nat) : Int) by omega, show ((max k j : Nat) : Int) - j = ((max k j - j : Nat) : Int) by omega, Int.toNat_natCast, Int.toNat_natCast]
theorem max_cast (k j : Nat) : (max (k : Int) (j : Int)) = ((max k j : Nat) : Int) := by omega
theorem addC_comm (x y : C4) : addC x y = addC y x := by
  refine C4.ext' ?_ ?_ ?_ ?_ <;> simp only [addC] <;> omega
theorem addC_neg (x y : C4) : addC (addC x y) (negC y) = x := by
  refine C4.ext' ?_ ?_ ?_ ?_ <;> simp only [addC, negC] <;> omega
/-- A sum, over any exponent that is not less than both. -/
theorem same_addK (x y : C4) (k j N : Nat) (hk : k ≤ N) (hj : j ≤ N) : Same (addK x k y j) (max k j) (addC (rpow (N - k) x) (rpow (N - j) y)) N := by
  refine ⟨N - max k j, 0, by omega, ?_⟩
  rw [addK_nat, rpow_add, rpow_rpow, rpow_rpow, show N - max k j + (max k j - k) = N - k by omega, show N - max k j + (max k j - j) = N - j by omega]
  rfl
theorem Same.lift (x : C4) {k N : Nat} (h : k ≤ N) : Same x k (rpow (N - k) x) N := ⟨N - k, 0, by omega, rfl⟩
/-- The sum of numbers that are each the same. -/
theorem Same.addK {x y x' y' : C4} {k j k' j' : Nat} (h : Same x k x' k') (h' : Same y j y' j') : Same (addK x k y j) (max k j) (addK x' k' y' j') (max k' j') := by
  refine (same_addK x y k j (k + j) (by omega) (by omega)).trans (Same.trans ?_ (same_addK x' y' k' j' (k' + j') (by omega) (by omega)).symm)
  exact Same.add ((Same.lift x (by omega)).symm.trans (h.trans (Same.lift x' (by omega)))) ((Same.lift y (by omega)).symm.trans (h'.trans (Same.lift y' (by omega))))
end Amp
