/- Layer 1, plainly: which of q r and p is the greater one, by the whole parts of p / q. No condition. -/
import Derived.Test.YtecnidnaokbaiaaAmpSgn
namespace Amp
/-- Whether p / q is less than r (part 1), or than 1 + r (part 2). -/
def abN (part q p : Int) : Bool := if part = 1 then decide (p * p < 2 * (q * q)) else decide (p * p < 2 * (p * q) + q * q)

theorem abN_ne {part q p : Int} (hp : part = 1 ∨ part = 2) (hq : 0 < q) (h0 : 0 < p) (h : p / q ≠ part) : abN part q p = decide (p / q < part) := by
  have e := Int.mul_ediv_add_emod p q
  have r0 := Int.emod_nonneg p (show q ≠ 0 by omega)
  have r1 := Int.emod_lt_of_pos p hq
  have n0 : 0 ≤ p / q := Int.ediv_nonneg (by omega) (by omega)
  generalize p / q = n at *
  generalize p % q = r at *
  have hqq : 0 < q * q := Int.mul_pos hq hq
  rcases hp with rfl | rfl
  · unfold abN
    rw [if_pos rfl]
    by_cases h1 : n < 1
    · obtain rfl : n = 0 := by omega
      have hlt : p < q := by omega
      have : p * p ≤ q * q := Int.mul_le_mul (by omega) (by omega) (by omega) (by omega)
      rw [decide_eq_true h1, decide_eq_true (by omega)]
    · have h2 : q * 2 ≤ q * n := Int.mul_le_mul_of_nonneg_left (by omega) (by omega)
      have h3 : 2 * q ≤ p := by omega
      have : 2 * q * (2 * q) ≤ p * p := Int.mul_le_mul h3 h3 (by omega) (by omega)
      have e4 : 2 * q * (2 * q) = 4 * (q * q) := by grind
      rw [decide_eq_false h1, decide_eq_false (by omega)]
  · unfold abN
    rw [if_neg (by omega)]
    by_cases h1 : n < 2
    · have h2 : q * n ≤ q * 1 := Int.mul_le_mul_of_nonneg_left (by omega) (by omega)
      have h3 : p < 2 * q := by omega
      have : p * p ≤ p * (2 * q) := Int.mul_le_mul_of_nonneg_left (by omega) (by omega)
      have e4 : p * (2 * q) = 2 * (p * q) := by grind
      rw [decide_eq_true h1, decide_eq_true (by omega)]
    · have h2 : q * 3 ≤ q * n := Int.mul_le_mul_of_nonneg_left (by omega) (by omega)
      have h3 : 3 * q ≤ p := by omega
      have h4 : p * (3 * q) ≤ p * p := Int.mul_le_mul_of_nonneg_left (by omega) (by omega)
      have h5 : 3 * q * q ≤ p * q := Int.mul_le_mul_of_nonneg_right (by omega) (by omega)
      have e4 : p * (3 * q) = 3 * (p * q) := by grind
      have e5 : 3 * q * q = 3 * (q * q) := by grind
      rw [decide_eq_false h1, decide_eq_false (by omega)]
theorem abN_zero {part q p : Int} (hp : part = 1 ∨ part = 2) (hq : 0 < q) (h : p / q = part) (hr : p % q = 0) : abN part q p = true := by
  have e := Int.mul_ediv_add_emod p q
  rw [h, hr] at e
  have hqq : 0 < q * q := Int.mul_pos hq hq
  rcases hp with rfl | rfl
  · obtain rfl : p = q := by omega
    unfold abN
    rw [if_pos rfl, decide_eq_true (by omega)]
  · obtain rfl : p = 2 * q := by omega
    unfold abN
    have e4 : 2 * q * (2 * q) = 4 * (q * q) := by grind
    have e5 : 2 * q * q = 2 * (q * q) := by grind
    rw [if_neg (by omega), e4, e5, decide_eq_true (by omega)]
theorem abN_step {part q p : Int} (hp : part = 1 ∨ part = 2) (hq : 0 < q) (h : p / q = part) (hr : p % q ≠ 0) : abN part q p = !abN 2 (p % q) q := by
  have e := Int.mul_ediv_add_emod p q
  have r0 := Int.emod_nonneg p (show q ≠ 0 by omega)
  rw [h] at e
  generalize p % q = r at *
  have hne : q * q ≠ 2 * (q * r) + r * r := by
    intro he
    have : (q - r) * (q - r) = 2 * (r * r) := by
      have e1 : (q - r) * (q - r) = q * q - 2 * (q * r) + r * r := by grind
      rw [e1]; omega
    exact hr (irr this).2
  have key : abN part q p = decide (2 * (q * r) + r * r < q * q) := by
    rcases hp with rfl | rfl
    · obtain rfl : p = q + r := by omega
      unfold abN
      have e1 : (q + r) * (q + r) = q * q + 2 * (q * r) + r * r := by grind
      rw [if_pos rfl, e1, decide_eq_decide]
      omega
    · obtain rfl : p = 2 * q + r := by omega
      unfold abN
      have e1 : (2 * q + r) * (2 * q + r) = 4 * (q * q) + 4 * (q * r) + r * r := by grind
      have e2 : (2 * q + r) * q = 2 * (q * q) + q * r := by grind
      rw [if_neg (by omega), e1, e2, decide_eq_decide]
      omega
  rw [key]
  unfold abN
  rw [if_neg (by omega), Bool.eq_iff_iff]
  simp only [decide_eq_true_eq, Bool.not_eq_true', decide_eq_false_iff_not]
  omega
theorem sgn_above {p q : Int} (hp : p < 0) (hq : 0 < q) : sgn p q = if abN 1 q (-p) = true then 1 else -1 := by
  unfold abN
  rw [if_pos rfl, neg_sq]
  by_cases h : p * p < 2 * (q * q)
  · rw [if_pos (by simpa using h)]
    exact sgn_pos (.inr ⟨hq, h⟩)
  · rw [if_neg (by simpa using h)]
    apply sgn_negp
    left
    refine ⟨by omega, ?_⟩
    rw [neg_sq, neg_sq]
    have : p * p ≠ 2 * (q * q) := by
      intro he
      have := (irr he).1
      omega
    omega
theorem sgn_nonneg {p q : Int} (hp : 0 ≤ p) (hq : 0 ≤ q) : sgn p q = min (p + q) 1 := by
  by_cases h : p = 0 ∧ q = 0
  · obtain ⟨rfl, rfl⟩ := h; decide
  · have hs : sgn p q = 1 := by
      apply sgn_pos
      unfold Pos PosA PosB
      rcases Int.lt_trichotomy (p * p) (2 * (q * q)) with h1 | h1 | h1
      · right; refine ⟨?_, h1⟩
        rcases Int.lt_or_le 0 q with h2 | h2
        · exact h2
        · obtain rfl : q = 0 := by omega
          have := sq_nonneg p; omega
      · exact absurd (irr h1) h
      · left; refine ⟨?_, h1⟩
        rcases Int.lt_or_le 0 p with h2 | h2
        · exact h2
        · obtain rfl : p = 0 := by omega
          have := sq_nonneg q; omega
    rw [hs]; omega
theorem sgn_nonpos {p q : Int} (hp : p ≤ 0) (hq : q ≤ 0) : sgn p q = max (p + q) (-1) := by
  have h := sgn_opp (-p) (-q)
  rw [Int.neg_neg, Int.neg_neg, sgn_nonneg (p := -p) (q := -q) (by omega) (by omega)] at h
  rw [h]; omega
/-- The greater one of both squares decides. -/
theorem sgn_mixed {a b : Int} (h : a < 0 ∧ 0 < b ∨ 0 < a ∧ b < 0) : sgn a b = if decide (2 * (b * b) < a * a) = decide (0 < a) then 1 else -1 := by
  have hne : a * a ≠ 2 * (b * b) := by
    intro he
    have := irr he
    omega
  rcases h with ⟨h1, h2⟩ | ⟨h1, h2⟩
  · rw [decide_eq_false (show ¬ 0 < a by omega)]
    by_cases h3 : 2 * (b * b) < a * a
    · rw [if_neg (by simpa using h3)]
      apply sgn_negp; left
      refine ⟨by omega, ?_⟩
      rw [neg_sq, neg_sq]; exact h3
    · rw [if_pos (by simpa using h3)]
      apply sgn_pos; right
      exact ⟨h2, by omega⟩
  · rw [decide_eq_true h1]
    by_cases h3 : 2 * (b * b) < a * a
    · rw [if_pos (by simpa using h3)]
      apply sgn_pos; left
      exact ⟨h1, h3⟩
    · rw [if_neg (by simpa using h3)]
      apply sgn_negp; right
      refine ⟨by omega, ?_⟩
      rw [neg_sq, neg_sq]; omega
end Amp
