/- Layer 1, plainly: the sign of a + b r, where r is the root of 2. No condition. -/
import Derived.Test.YtecnidnaokbaiaaAmpAlg

namespace Amp

def PosA (a b : Int) : Prop := 0 < a ∧ 2 * (b * b) < a * a
def PosB (a b : Int) : Prop := 0 < b ∧ a * a < 2 * (b * b)
def Pos (a b : Int) : Prop := PosA a b ∨ PosB a b
instance (a b : Int) : Decidable (Pos a b) := by unfold Pos PosA PosB; infer_instance
def sgn (a b : Int) : Int := if a = 0 ∧ b = 0 then 0 else if Pos a b then 1 else -1

theorem irr_nat : ∀ (n a b : Nat), a ≤ n → a * a = 2 * (b * b) → a = 0
  | 0, a, b, h, _ => by omega
  | n + 1, a, b, h, e => by
    rcases Nat.eq_zero_or_pos a with h0 | h0
    · exact h0
    exfalso
    have h2 : a % 2 = 0 := by
      rcases Nat.mod_two_eq_zero_or_one a with h | h
      · exact h
      · have : a * a % 2 = 1 := by rw [Nat.mul_mod, h]
        omega
    obtain ⟨c, rfl⟩ : ∃ c, a = 2 * c := ⟨a / 2, by omega⟩
    have e2 : b * b = 2 * (c * c) := by
      have : 2 * c * (2 * c) = 4 * (c * c) := by rw [Nat.mul_mul_mul_comm]
      omega
    have hb : b < 2 * c := by
      apply Nat.lt_of_not_le
      intro hle
      have h1 : 2 * c * (2 * c) ≤ b * b := Nat.mul_le_mul hle hle
      have h3 : 0 < c * c := Nat.mul_pos (by omega) (by omega)
      have : 2 * c * (2 * c) = 4 * (c * c) := by rw [Nat.mul_mul_mul_comm]
      omega
    have hb0 := irr_nat n b c (by omega) e2
    subst hb0
    have h3 : 0 < c * c := Nat.mul_pos (by omega) (by omega)
    omega
theorem sq_nat (a : Int) : a * a = ((a.natAbs * a.natAbs : Nat) : Int) := by
  rw [Int.natCast_mul]; exact (Int.natAbs_mul_self' a).symm
theorem irr {a b : Int} (h : a * a = 2 * (b * b)) : a = 0 ∧ b = 0 := by
  rw [sq_nat a, sq_nat b] at h
  have h1 : a.natAbs * a.natAbs = 2 * (b.natAbs * b.natAbs) := by omega
  have h2 := irr_nat _ _ _ (Nat.le_refl _) h1
  rw [h2] at h1
  have h3 : b.natAbs * b.natAbs = 0 := by omega
  have h4 : b.natAbs = 0 := by
    rcases Nat.mul_eq_zero.1 h3 with h | h <;> exact h
  omega
theorem sq_pos {a : Int} (h : a ≠ 0) : 0 < a * a := by
  rw [sq_nat]
  have : 0 < a.natAbs * a.natAbs := Nat.mul_pos (by omega) (by omega)
  omega
theorem sq_nonneg (a : Int) : 0 ≤ a * a := by
  rw [sq_nat]; omega
theorem lt_of_sq {x y : Int} (hy : 0 ≤ y) (h : x * x < y * y) : x < y := by
  apply Int.lt_of_not_ge
  intro hle
  have : y * y ≤ x * x := Int.mul_le_mul hle hle hy (Int.le_trans hy hle)
  omega
theorem sq_mul (a b : Int) : a * b * (a * b) = a * a * (b * b) := by grind

theorem PosA.add {a b c d : Int} (h : PosA a b) (k : PosA c d) : PosA (a + c) (b + d) := by
  obtain ⟨ha, h⟩ := h
  obtain ⟨hc, k⟩ := k
  refine ⟨by omega, ?_⟩
  have hac : 0 < a * c := Int.mul_pos ha hc
  have hc2 : 0 < c * c := Int.mul_pos hc hc
  have h1 : 2 * (b * b) * (c * c) < a * a * (c * c) := Int.mul_lt_mul_of_pos_right h hc2
  have h2 : 2 * (b * b) * (2 * (d * d)) ≤ 2 * (b * b) * (c * c) := Int.mul_le_mul_of_nonneg_left (Int.le_of_lt k) (by have := sq_nonneg b; omega)
  have h3 : 2 * (b * d) < a * c := by
    apply lt_of_sq (Int.le_of_lt hac)
    have e1 : 2 * (b * d) * (2 * (b * d)) = 2 * (b * b) * (2 * (d * d)) := by grind
    have e2 : a * c * (a * c) = a * a * (c * c) := by grind
    rw [e1, e2]; omega
  have e3 : (b + d) * (b + d) = b * b + 2 * (b * d) + d * d := by grind
  have e4 : (a + c) * (a + c) = a * a + 2 * (a * c) + c * c := by grind
  rw [e3, e4]; omega
theorem PosB.add {a b c d : Int} (h : PosB a b) (k : PosB c d) : PosB (a + c) (b + d) := by
  obtain ⟨hb, h⟩ := h
  obtain ⟨hd, k⟩ := k
  refine ⟨by omega, ?_⟩
  have hbd : 0 < b * d := Int.mul_pos hb hd
  have hd2 : 0 < d * d := Int.mul_pos hd hd
  have h1 : a * a * (2 * (d * d)) < 2 * (b * b) * (2 * (d * d)) := Int.mul_lt_mul_of_pos_right h (by omega)
  have h2 : a * a * (c * c) ≤ a * a * (2 * (d * d)) := Int.mul_le_mul_of_nonneg_left (Int.le_of_lt k) (sq_nonneg a)
  have h3 : a * c < 2 * (b * d) := by
    apply lt_of_sq (by omega)
    have e1 : 2 * (b * d) * (2 * (b * d)) = 2 * (b * b) * (2 * (d * d)) := by grind
    have e2 : a * c * (a * c) = a * a * (c * c) := by grind
    rw [e1, e2]; omega
  have e3 : (b + d) * (b + d) = b * b + 2 * (b * d) + d * d := by grind
  have e4 : (a + c) * (a + c) = a * a + 2 * (a * c) + c * c := by grind
  rw [e3, e4]; omega
theorem neg_sq (a : Int) : -a * -a = a * a := by grind
theorem pos_cases (a b : Int) : (a = 0 ∧ b = 0) ∨ Pos a b ∨ Pos (-a) (-b) := by
  unfold Pos PosA PosB
  rw [neg_sq, neg_sq]
  rcases Int.lt_trichotomy (a * a) (2 * (b * b)) with h | h | h
  · rcases Int.lt_trichotomy b 0 with hb | hb | hb
    · exact .inr (.inr (.inr ⟨by omega, h⟩))
    · subst hb; have := sq_nonneg a; omega
    · exact .inr (.inl (.inr ⟨by omega, h⟩))
  · exact .inl (irr h)
  · rcases Int.lt_trichotomy a 0 with hb | hb | hb
    · exact .inr (.inr (.inl ⟨by omega, h⟩))
    · subst hb; have := sq_nonneg b; omega
    · exact .inr (.inl (.inl ⟨by omega, h⟩))
theorem Pos.not_zero {a b : Int} (h : Pos a b) : ¬ (a = 0 ∧ b = 0) := by
  rintro ⟨rfl, rfl⟩
  rcases h with ⟨h, _⟩ | ⟨h, _⟩ <;> omega
theorem Pos.not_neg {a b : Int} (h : Pos a b) : ¬ Pos (-a) (-b) := by
  unfold Pos PosA PosB at *
  rw [neg_sq, neg_sq]
  omega
theorem Pos.add_ab {a b c d : Int} (h : PosA a b) (k : PosB c d) : Pos (a + c) (b + d) := by
  rcases pos_cases (a + c) (b + d) with ⟨h1, h2⟩ | h1 | h1
  · obtain ⟨_, h⟩ := h
    obtain ⟨_, k⟩ := k
    obtain rfl : c = -a := by omega
    obtain rfl : d = -b := by omega
    rw [neg_sq, neg_sq] at k
    omega
  · exact h1
  · exfalso
    rcases h1 with h1 | h1
    · have h2 := h1.add h
      rw [show -(a + c) + a = -c by omega, show -(b + d) + b = -d by omega] at h2
      obtain ⟨_, h2⟩ := h2
      obtain ⟨_, k⟩ := k
      rw [neg_sq, neg_sq] at h2
      omega
    · have h2 := h1.add k
      rw [show -(a + c) + c = -a by omega, show -(b + d) + d = -b by omega] at h2
      obtain ⟨_, h2⟩ := h2
      obtain ⟨_, h⟩ := h
      rw [neg_sq, neg_sq] at h2
      omega
theorem Pos.add {a b c d : Int} (h : Pos a b) (k : Pos c d) : Pos (a + c) (b + d) := by
  rcases h with h | h <;> rcases k with k | k
  · exact .inl (h.add k)
  · exact Pos.add_ab h k
  · rw [Int.add_comm a, Int.add_comm b]; exact Pos.add_ab k h
  · exact .inr (h.add k)

theorem sgn_zero : sgn 0 0 = 0 := by decide
theorem sgn_pos {a b : Int} (h : Pos a b) : sgn a b = 1 := by
  unfold sgn; rw [if_neg h.not_zero, if_pos h]
theorem sgn_negp {a b : Int} (h : Pos (-a) (-b)) : sgn a b = -1 := by
  unfold sgn
  rw [if_neg (by have := h.not_zero; omega), if_neg (by intro h'; have := h'.not_neg; exact this h)]
theorem sgn_cases (a b : Int) : (a = 0 ∧ b = 0 ∧ sgn a b = 0) ∨ (Pos a b ∧ sgn a b = 1) ∨ (Pos (-a) (-b) ∧ sgn a b = -1) := by
  rcases pos_cases a b with ⟨rfl, rfl⟩ | h | h
  · exact .inl ⟨rfl, rfl, sgn_zero⟩
  · exact .inr (.inl ⟨h, sgn_pos h⟩)
  · exact .inr (.inr ⟨h, sgn_negp h⟩)
theorem sgn_eq_zero {a b : Int} : sgn a b = 0 ↔ a = 0 ∧ b = 0 := by
  rcases sgn_cases a b with ⟨h1, h2, h⟩ | ⟨h1, h⟩ | ⟨h1, h⟩
  · rw [h]; simp [h1, h2]
  · rw [h]; have := h1.not_zero; omega
  · rw [h]; have := h1.not_zero; omega
theorem sgn_eq_one {a b : Int} : sgn a b = 1 ↔ Pos a b := by
  rcases sgn_cases a b with ⟨h1, h2, h⟩ | ⟨h1, h⟩ | ⟨h1, h⟩
  · rw [h]; constructor
    · omega
    · intro h3; exact absurd ⟨h1, h2⟩ h3.not_zero
  · rw [h]; simp [h1]
  · rw [h]; constructor
    · omega
    · intro h3; exact absurd h1 h3.not_neg
theorem sgn_opp (a b : Int) : sgn (-a) (-b) = -sgn a b := by
  rcases sgn_cases a b with ⟨rfl, rfl, h⟩ | ⟨h1, h⟩ | ⟨h1, h⟩
  · rfl
  · rw [h]; exact sgn_negp (by rw [Int.neg_neg, Int.neg_neg]; exact h1)
  · rw [h]; exact sgn_pos h1
theorem sgn_le (a b : Int) : -1 ≤ sgn a b ∧ sgn a b ≤ 1 := by
  rcases sgn_cases a b with ⟨h1, h2, h⟩ | ⟨h1, h⟩ | ⟨h1, h⟩ <;> rw [h] <;> omega
/-- Two of one sign, or one of none. -/
theorem sgn_add {a b c d : Int} (h : sgn a b = sgn c d) : sgn (a + c) (b + d) = sgn a b := by
  rcases sgn_cases a b with ⟨h1, h2, h3⟩ | ⟨h1, h3⟩ | ⟨h1, h3⟩
  · rw [h3] at h
    obtain ⟨rfl, rfl⟩ := sgn_eq_zero.1 h.symm
    rw [Int.add_zero, Int.add_zero]
  · rw [h3] at h
    rw [h3]
    exact sgn_pos (h1.add (sgn_eq_one.1 h.symm))
  · rw [h3] at h
    rw [h3]
    apply sgn_negp
    rw [Int.neg_add, Int.neg_add]
    apply h1.add
    rcases sgn_cases c d with ⟨_, _, h4⟩ | ⟨_, h4⟩ | ⟨h5, _⟩
    · omega
    · omega
    · exact h5
theorem sgn_add_zero {a b c d : Int} (h : sgn a b = 0) : sgn (a + c) (b + d) = sgn c d := by
  obtain ⟨rfl, rfl⟩ := sgn_eq_zero.1 h
  rw [Int.zero_add, Int.zero_add]
/-- r times a number has its sign. -/
theorem pos_root (a b : Int) : Pos (2 * b) a ↔ Pos a b := by
  unfold Pos PosA PosB
  have e : 2 * b * (2 * b) = 4 * (b * b) := by grind
  rw [e]
  omega
theorem sgn_root (a b : Int) : sgn (2 * b) a = sgn a b := by
  rcases sgn_cases a b with ⟨rfl, rfl, h⟩ | ⟨h1, h⟩ | ⟨h1, h⟩
  · rfl
  · rw [h]; exact sgn_pos ((pos_root a b).2 h1)
  · rw [h]
    apply sgn_negp
    rw [show -(2 * b) = 2 * (-b) by omega]
    exact (pos_root (-a) (-b)).2 h1
end Amp

/- Layer 1, plainly: which of q r and p is the greater one, by the whole parts of p / q. No condition. -/

namespace Amp
/-- Whether p / q is less than r (part 1), or than 1 + r (part 2). -/
def abN (part q p : Int) : Bool := if part = 1 then decide (p * p < 2 * (q * q)) else decide (p * p < 2 * (p * q) + q * q)

theorem abN_ne {part q p : Int} (hp : part = 1 ∨ part = 2) (hq : 0 < q) (h0 : 0 < p) (h : p / q ≠ part) : abN part q p = decide (p / q < part) := by
  have e := Int.mul_ediv_add_emod p q
  have r0 := Int.emod_nonneg p (show q ≠ 0 by omega)
  have r1 := Int.emod_lt_of_pos p hq
  have n0 : 0 ≤ p / q := Int.ediv_nonneg (by omega) (by omega)
  generalize p / q = n at *
  generalize p % q = r at *
  have hqq : 0 < q * q := Int.mul_pos hq hq
  rcases hp with rfl | rfl
  · unfold abN
    rw [if_pos rfl]
    by_cases h1 : n < 1
    · obtain rfl : n = 0 := by omega
      have hlt : p < q := by omega
      have : p * p ≤ q * q := Int.mul_le_mul (by omega) (by omega) (by omega) (by omega)
      rw [decide_eq_true h1, decide_eq_true (by omega)]
    · have h2 : q * 2 ≤ q * n := Int.mul_le_mul_of_nonneg_left (by omega) (by omega)
      have h3 : 2 * q ≤ p := by omega
      have : 2 * q * (2 * q) ≤ p * p := Int.mul_le_mul h3 h3 (by omega) (by omega)
      have e4 : 2 * q * (2 * q) = 4 * (q * q) := by grind
      rw [decide_eq_false h1, decide_eq_false (by omega)]
  · unfold abN
    rw [if_neg (by omega)]
    by_cases h1 : n < 2
    · have h2 : q * n ≤ q * 1 := Int.mul_le_mul_of_nonneg_left (by omega) (by omega)
      have h3 : p < 2 * q := by omega
      have : p * p ≤ p * (2 * q) := Int.mul_le_mul_of_nonneg_left (by omega) (by omega)
      have e4 : p * (2 * q) = 2 * (p * q) := by grind
      rw [decide_eq_true h1, decide_eq_true (by omega)]
    · have h2 : q * 3 ≤ q * n := Int.mul_le_mul_of_nonneg_left (by omega) (by omega)
      have h3 : 3 * q ≤ p := by omega
      have h4 : p * (3 * q) ≤ p * p := Int.mul_le_mul_of_nonneg_left (by omega) (by omega)
      have h5 : 3 * q * q ≤ p * q := Int.mul_le_mul_of_nonneg_right (by omega) (by omega)
      have e4 : p * (3 * q) = 3 * (p * q) := by grind
      have e5 : 3 * q * q = 3 * (q * q) := by grind
      rw [decide_eq_false h1, decide_eq_false (by omega)]
theorem abN_zero {part q p : Int} (hp : part = 1 ∨ part = 2) (hq : 0 < q) (h : p / q = part) (hr : p % q = 0) : abN part q p = true := by
  have e := Int.mul_ediv_add_emod p q
  rw [h, hr] at e
  have hqq : 0 < q * q := Int.mul_pos hq hq
  rcases hp with rfl | rfl
  · obtain rfl : p = q := by omega
    unfold abN
    rw [if_pos rfl, decide_eq_true (by omega)]
  · obtain rfl : p = 2 * q := by omega
    unfold abN
    have e4 : 2 * q * (2 * q) = 4 * (q * q) := by grind
    have e5 : 2 * q * q = 2 * (q * q) := by grind
    rw [if_neg (by omega), e4, e5, decide_eq_true (by omega)]
theorem abN_step {part q p : Int} (hp : part = 1 ∨ part = 2) (hq : 0 < q) (h : p / q = part) (hr : p % q ≠ 0) : abN part q p = !abN 2 (p % q) q := by
  have e := Int.mul_ediv_add_emod p q
  have r0 := Int.emod_nonneg p (show q ≠ 0 by omega)
  rw [h] at e
  generalize p % q = r at *
  have hne : q * q ≠ 2 * (q * r) + r * r := by
    intro he
    have : (q - r) * (q - r) = 2 * (r * r) := by
      have e1 : (q - r) * (q - r) = q * q - 2 * (q * r) + r * r := by grind
      rw [e1]; omega
    exact hr (irr this).2
  have key : abN part q p = decide (2 * (q * r) + r * r < q * q) := by
    rcases hp with rfl | rfl
    · obtain rfl : p = q + r := by omega
      unfold abN
      have e1 : (q + r) * (q + r) = q * q + 2 * (q * r) + r * r := by grind
      rw [if_pos rfl, e1, decide_eq_decide]
      omega
    · obtain rfl : p = 2 * q + r := by omega
      unfold abN
      have e1 : (2 * q + r) * (2 * q + r) = 4 * (q * q) + 4 * (q * r) + r * r := by grind
      have e2 : (2 * q + r) * q = 2 * (q * q) + q * r := by grind
      rw [if_neg (by omega), e1, e2, decide_eq_decide]
      omega
  rw [key]
  unfold abN
  rw [if_neg (by omega), Bool.eq_iff_iff]
  simp only [decide_eq_true_eq, Bool.not_eq_true', decide_eq_false_iff_not]
  omega
theorem sgn_above {p q : Int} (hp : p < 0) (hq : 0 < q) : sgn p q = if abN 1 q (-p) = true then 1 else -1 := by
  unfold abN
  rw [if_pos rfl, neg_sq]
  by_cases h : p * p < 2 * (q * q)
  · rw [if_pos (by simpa using h)]
    exact sgn_pos (.inr ⟨hq, h⟩)
  · rw [if_neg (by simpa using h)]
    apply sgn_negp
    left
    refine ⟨by omega, ?_⟩
    rw [neg_sq, neg_sq]
    have : p * p ≠ 2 * (q * q) := by
      intro he
      have := (irr he).1
      omega
    omega
theorem sgn_nonneg {p q : Int} (hp : 0 ≤ p) (hq : 0 ≤ q) : sgn p q = min (p + q) 1 := by
  by_cases h : p = 0 ∧ q = 0
  · obtain ⟨rfl, rfl⟩ := h; decide
  · have hs : sgn p q = 1 := by
      apply sgn_pos
      unfold Pos PosA PosB
      rcases Int.lt_trichotomy (p * p) (2 * (q * q)) with h1 | h1 | h1
      · right; refine ⟨?_, h1⟩
        rcases Int.lt_or_le 0 q with h2 | h2
        · exact h2
        · obtain rfl : q = 0 := by omega
          have := sq_nonneg p; omega
      · exact absurd (irr h1) h
      · left; refine ⟨?_, h1⟩
        rcases Int.lt_or_le 0 p with h2 | h2
        · exact h2
        · obtain rfl : p = 0 := by omega
          have := sq_nonneg q; omega
    rw [hs]; omega
theorem sgn_nonpos {p q : Int} (hp : p ≤ 0) (hq : q ≤ 0) : sgn p q = max (p + q) (-1) := by
  have h := sgn_opp (-p) (-q)
  rw [Int.neg_neg, Int.neg_neg, sgn_nonneg (p := -p) (q := -q) (by omega) (by omega)] at h
  rw [h]; omega
/-- The greater one of both squares decides. -/
theorem sgn_mixed {a b : Int} (h : a < 0 ∧ 0 < b ∨ 0 < a ∧ b < 0) : sgn a b = if decide (2 * (b * b) < a * a) = decide (0 < a) then 1 else -1 := by
  have hne : a * a ≠ 2 * (b * b) := by
    intro he
    have := irr he
    omega
  rcases h with ⟨h1, h2⟩ | ⟨h1, h2⟩
  · rw [decide_eq_false (show ¬ 0 < a by omega)]
    by_cases h3 : 2 * (b * b) < a * a
    · rw [if_neg (by simpa using h3)]
      apply sgn_negp; left
      refine ⟨by omega, ?_⟩
      rw [neg_sq, neg_sq]; exact h3
    · rw [if_pos (by simpa using h3)]
      apply sgn_pos; right
      exact ⟨h2, by omega⟩
  · rw [decide_eq_true h1]
    by_cases h3 : 2 * (b * b) < a * a
    · rw [if_pos (by simpa using h3)]
      apply sgn_pos; left
      exact ⟨h1, h3⟩
    · rw [if_neg (by simpa using h3)]
      apply sgn_negp; right
      refine ⟨by omega, ?_⟩
      rw [neg_sq, neg_sq]; omega
end Amp

/- Layer 1, plainly: the greatest whole number that is at most (p + q r) / u, and bounds. No condition. -/

namespace Amp

def isq : Nat → Nat
  | 0 => 0
  | n + 1 => if (isq n + 1) * (isq n + 1) ≤ n + 1 then isq n + 1 else isq n
theorem isq_spec : ∀ n, isq n * isq n ≤ n ∧ n < (isq n + 1) * (isq n + 1)
  | 0 => by decide
  | n + 1 => by
    obtain ⟨h1, h2⟩ := isq_spec n
    unfold isq
    generalize isq n = s at *
    split
    · rename_i h
      refine ⟨h, ?_⟩
      have : (s + 1 + 1) * (s + 1 + 1) = (s + 1) * (s + 1) + 2 * (s + 1) + 1 := by grind
      omega
    · exact ⟨by omega, by omega⟩
theorem isq_uniq {n s t : Nat} (h1 : s * s ≤ n) (h2 : n < (s + 1) * (s + 1)) (h3 : t * t ≤ n) (h4 : n < (t + 1) * (t + 1)) : s = t := by
  rcases Nat.lt_trichotomy s t with h | h | h
  · have : (s + 1) * (s + 1) ≤ t * t := Nat.mul_le_mul h h
    omega
  · exact h
  · have : (t + 1) * (t + 1) ≤ s * s := Nat.mul_le_mul h h
    omega
theorem isq_eq {n s : Nat} (h1 : s * s ≤ n) (h2 : n < (s + 1) * (s + 1)) : isq n = s :=
  isq_uniq (isq_spec n).1 (isq_spec n).2 h1 h2

/-- The greatest n with n u at most p + q r. -/
def FlAt (p q u n : Int) : Prop := 0 ≤ sgn (p - n * u) q ∧ sgn (p - (n + 1) * u) q < 0
theorem pos_one {c : Int} (h : 0 < c) : Pos c 0 := .inl ⟨h, by have := Int.mul_pos h h; omega⟩
theorem sgn_up {a b c : Int} (h : 0 ≤ sgn a b) (hc : 0 < c) : sgn (a + c) b = 1 := by
  rcases sgn_cases a b with ⟨rfl, rfl, _⟩ | ⟨h1, _⟩ | ⟨_, h1⟩
  · rw [Int.zero_add]; exact sgn_pos (pos_one hc)
  · have := h1.add (pos_one hc)
    rw [Int.add_zero] at this
    exact sgn_pos this
  · omega
theorem sgn_up0 {a b c : Int} (h : 0 ≤ sgn a b) (hc : 0 ≤ c) : 0 ≤ sgn (a + c) b := by
  rcases Int.lt_or_eq_of_le hc with h1 | h1
  · rw [sgn_up h h1]; decide
  · rw [← h1, Int.add_zero]; exact h
theorem sgn_down {a b c : Int} (h : sgn a b < 0) (hc : 0 ≤ c) : sgn (a - c) b < 0 := by
  apply Int.lt_of_not_ge
  intro h1
  have := sgn_up0 h1 hc
  rw [Int.sub_add_cancel] at this
  omega
theorem FlAt.le {p q u n m : Int} (hu : 0 < u) (h : FlAt p q u n) (hm : 0 ≤ sgn (p - m * u) q) : m ≤ n := by
  apply Int.le_of_not_gt
  intro hlt
  have h1 : (n + 1) * u ≤ m * u := Int.mul_le_mul_of_nonneg_right (by omega) (by omega)
  have h2 := sgn_down h.2 (c := m * u - (n + 1) * u) (by omega)
  rw [show p - (n + 1) * u - (m * u - (n + 1) * u) = p - m * u by omega] at h2
  omega
theorem FlAt.uniq {p q u n m : Int} (hu : 0 < u) (h : FlAt p q u n) (k : FlAt p q u m) : n = m := by
  have h1 := h.le hu k.1
  have h2 := k.le hu h.1
  omega
theorem FlAt.lt {p q u n m : Int} (hu : 0 < u) (h : FlAt p q u n) (hm : sgn (p - m * u) q < 0) : n < m := by
  apply Int.lt_of_not_ge
  intro hle
  have h1 : m * u ≤ n * u := Int.mul_le_mul_of_nonneg_right hle (by omega)
  have h2 := sgn_up0 h.1 (c := n * u - m * u) (by omega)
  rw [show p - n * u + (n * u - m * u) = p - m * u by omega] at h2
  omega

def floorN (p q : Int) : Int := if 0 < q then p + isq (2 * (q.natAbs * q.natAbs)) else if q < 0 then p - isq (2 * (q.natAbs * q.natAbs)) - 1 else p
theorem isq_int (q : Int) : ((isq (2 * (q.natAbs * q.natAbs)) : Nat) : Int) * (isq (2 * (q.natAbs * q.natAbs)) : Nat) ≤ 2 * (q * q) ∧ 2 * (q * q) < (((isq (2 * (q.natAbs * q.natAbs)) : Nat) : Int) + 1) * (((isq (2 * (q.natAbs * q.natAbs)) : Nat) : Int) + 1) := by
  obtain ⟨h1, h2⟩ := isq_spec (2 * (q.natAbs * q.natAbs))
  have e := sq_nat q
  generalize isq (2 * (q.natAbs * q.natAbs)) = s at *
  have h3 : ((s * s : Nat) : Int) ≤ 2 * ((q.natAbs * q.natAbs : Nat) : Int) := by omega
  have h4 : 2 * ((q.natAbs * q.natAbs : Nat) : Int) < (((s + 1) * (s + 1) : Nat) : Int) := by omega
  rw [← e] at h3 h4
  rw [Int.natCast_mul] at h3 h4
  exact ⟨h3, by simpa using h4⟩
theorem floorN_at (p q : Int) : FlAt p q 1 (floorN p q) := by
  obtain ⟨h1, h2⟩ := isq_int q
  have hs : (0 : Int) ≤ (isq (2 * (q.natAbs * q.natAbs)) : Nat) := Int.natCast_nonneg _
  unfold floorN FlAt
  generalize ((isq (2 * (q.natAbs * q.natAbs)) : Nat) : Int) = s at *
  by_cases hq : 0 < q
  · rw [if_pos hq]
    have hne : s * s ≠ 2 * (q * q) := fun he => by have := (irr he).2; omega
    refine ⟨?_, ?_⟩
    · rw [show p - (p + s) * 1 = -s by omega, sgn_pos (.inr ⟨hq, by rw [neg_sq]; omega⟩)]; decide
    · rw [show p - (p + s + 1) * 1 = -(s + 1) by omega, sgn_negp (.inl ⟨by omega, by rw [Int.neg_neg, neg_sq]; exact h2⟩)]
      decide
  · rw [if_neg hq]
    by_cases hq2 : q < 0
    · rw [if_pos hq2]
      have hne : s * s ≠ 2 * (q * q) := fun he => by have := (irr he).2; omega
      refine ⟨?_, ?_⟩
      · rw [show p - (p - s - 1) * 1 = s + 1 by omega, sgn_pos (.inl ⟨by omega, h2⟩)]; decide
      · rw [show p - (p - s - 1 + 1) * 1 = s by omega, sgn_negp (.inr ⟨by omega, by rw [neg_sq, neg_sq]; omega⟩)]; decide
    · rw [if_neg hq2]
      obtain rfl : q = 0 := by omega
      rw [show p - p * 1 = 0 by omega, show p - (p + 1) * 1 = -1 by omega]
      decide
theorem floor_div {p q u n : Int} (hu : 0 < u) (h : FlAt p q 1 n) : FlAt p q u (n / u) := by
  have e := Int.mul_ediv_add_emod n u
  have r0 := Int.emod_nonneg n (show u ≠ 0 by omega)
  have r1 := Int.emod_lt_of_pos n hu
  obtain ⟨h1, h2⟩ := h
  generalize n / u = m at *
  generalize n % u = r at *
  have e1 : m * u = n - r := by rw [Int.mul_comm]; omega
  have e2 : (m + 1) * u = n - r + u := by rw [Int.add_mul, e1]; omega
  refine ⟨?_, ?_⟩
  · have := sgn_up0 h1 (c := r) r0
    rw [e1, show p - (n - r) = p - n * 1 + r by omega]
    exact this
  · have := sgn_down h2 (c := u - r - 1) (by omega)
    rw [e2, show p - (n - r + u) = p - (n + 1) * 1 - (u - r - 1) by omega]
    exact this
theorem sgn_mul {a b c : Int} (hc : 0 < c) : sgn (c * a) (c * b) = sgn a b := by
  have key : ∀ x y : Int, Pos x y → Pos (c * x) (c * y) := by
    intro x y h
    have hcc := Int.mul_pos hc hc
    have e1 : ∀ z : Int, c * z * (c * z) = c * c * (z * z) := fun z => by grind
    rcases h with ⟨h1, h2⟩ | ⟨h1, h2⟩
    · refine .inl ⟨Int.mul_pos hc h1, ?_⟩
      rw [e1, e1]
      have := Int.mul_lt_mul_of_pos_left h2 hcc
      have e2 : c * c * (2 * (y * y)) = 2 * (c * c * (y * y)) := by grind
      omega
    · refine .inr ⟨Int.mul_pos hc h1, ?_⟩
      rw [e1, e1]
      have := Int.mul_lt_mul_of_pos_left h2 hcc
      have e2 : c * c * (2 * (y * y)) = 2 * (c * c * (y * y)) := by grind
      omega
  rcases sgn_cases a b with ⟨rfl, rfl, h⟩ | ⟨h1, h⟩ | ⟨h1, h⟩
  · simp
  · rw [h, sgn_pos (key _ _ h1)]
  · rw [h]
    apply sgn_negp
    have := key _ _ h1
    rwa [Int.mul_neg, Int.mul_neg] at this
theorem FlAt.mul {p q u n c : Int} (hc : 0 < c) : FlAt (c * p) (c * q) (c * u) n ↔ FlAt p q u n := by
  unfold FlAt
  rw [show c * p - n * (c * u) = c * (p - n * u) by grind, show c * p - (n + 1) * (c * u) = c * (p - (n + 1) * u) by grind, sgn_mul hc, sgn_mul hc]
/-- The least number from above. -/
theorem FlAt.ceil {p q u n m : Int} (hu : 0 < u) (h : FlAt p q u n) (k : FlAt (-p) (-q) u m) : -m = if sgn (p - n * u) q = 0 then n else n + 1 := by
  have e : ∀ t : Int, sgn (-p - t * u) (-q) = -sgn (p - (-t) * u) q := fun t => by
    rw [← sgn_opp, show -(p - -t * u) = -p - t * u by grind]
  split
  · rename_i h0
    have : FlAt (-p) (-q) u (-n) := by
      refine ⟨by rw [e, Int.neg_neg, h0]; decide, ?_⟩
      rw [e]
      obtain ⟨h1, h2⟩ := sgn_eq_zero.1 h0
      rw [show p - -(-n + 1) * u = u by grind, h2, sgn_pos (pos_one hu)]
      decide
    rw [this.uniq hu k |>.symm]; omega
  · rename_i h0
    have : FlAt (-p) (-q) u (-(n + 1)) := by
      obtain ⟨h1, h2⟩ := h
      refine ⟨by rw [e, Int.neg_neg]; omega, ?_⟩
      rw [e, show -(-(n + 1) + 1) = n by omega]
      omega
    rw [this.uniq hu k |>.symm]; omega

def nP (p q e : Int) : Int := if e % 2 = 0 then p else 2 * q
def nQ (p q e : Int) : Int := if e % 2 = 0 then q else p
/-- The greatest whole number that is at most (p + q r) r^e. -/
def lowN (p q e : Int) : Int := if 0 ≤ e / 2 then floorN (2 ^ (e / 2).toNat * nP p q e) (2 ^ (e / 2).toNat * nQ p q e) else floorN (nP p q e) (nQ p q e) / 2 ^ (-(e / 2)).toNat
def hiN (p q e : Int) : Int := -lowN (-p) (-q) e
def cN (e : Int) : Int := if 0 ≤ e / 2 then 2 ^ (e / 2).toNat else 1
def uN (e : Int) : Int := if 0 ≤ e / 2 then 1 else 2 ^ (-(e / 2)).toNat
theorem two_pos (n : Nat) : (0 : Int) < 2 ^ n := Int.pow_pos (by decide)
theorem uN_pos (e : Int) : 0 < uN e := by
  unfold uN; split
  · decide
  · exact two_pos _
theorem cN_pos (e : Int) : 0 < cN e := by
  unfold cN; split
  · exact two_pos _
  · decide
theorem lowN_at (p q e : Int) : FlAt (cN e * nP p q e) (cN e * nQ p q e) (uN e) (lowN p q e) := by
  unfold lowN cN uN
  split
  · exact floorN_at _ _
  · rw [Int.one_mul, Int.one_mul]
    exact floor_div (two_pos _) (floorN_at _ _)
theorem nP_neg (p q e : Int) : nP (-p) (-q) e = -nP p q e := by
  unfold nP; split
  · rfl
  · rw [Int.mul_neg]
theorem nQ_neg (p q e : Int) : nQ (-p) (-q) e = -nQ p q e := by
  unfold nQ; split <;> rfl
theorem hiN_eq (p q e : Int) : hiN p q e = if sgn (cN e * nP p q e - lowN p q e * uN e) (cN e * nQ p q e) = 0 then lowN p q e else lowN p q e + 1 := by
  have h := lowN_at (-p) (-q) e
  rw [nP_neg, nQ_neg, Int.mul_neg, Int.mul_neg] at h
  exact (lowN_at p q e).ceil (uN_pos e) h
theorem hiN_le (p q e : Int) : lowN p q e ≤ hiN p q e ∧ hiN p q e ≤ lowN p q e + 1 := by
  rw [hiN_eq]; split <;> omega
theorem cu_next (e : Int) : cN (e + 2) * uN e = 2 * (cN e * uN (e + 2)) := by
  unfold cN uN
  have h : (e + 2) / 2 = e / 2 + 1 := by omega
  rw [h]
  generalize e / 2 = m
  by_cases h0 : 0 ≤ m
  · rw [if_pos (by omega), if_pos h0, if_pos h0, if_pos (by omega), show (m + 1).toNat = m.toNat + 1 by omega, Int.pow_succ]
    omega
  · by_cases h1 : m = -1
    · subst h1; decide
    · rw [if_neg (by omega), if_neg h0, if_neg h0, if_neg (by omega), show (-m).toNat = (-(m + 1)).toNat + 1 by omega, Int.pow_succ]
      omega
/-- One bit more: twice the bounds. -/
theorem lowN_next (p q e : Int) : 2 * lowN p q e ≤ lowN p q (e + 2) := by
  have h1 := lowN_at p q e
  have h2 := lowN_at p q (e + 2)
  have e1 : nP p q (e + 2) = nP p q e := by unfold nP; rw [show (e + 2) % 2 = e % 2 by omega]
  have e2 : nQ p q (e + 2) = nQ p q e := by unfold nQ; rw [show (e + 2) % 2 = e % 2 by omega]
  rw [e1, e2] at h2
  have hc := cu_next e
  have c1 := cN_pos e
  have c2 := cN_pos (e + 2)
  have u1 := uN_pos e
  have u2 := uN_pos (e + 2)
  generalize lowN p q e = n at *
  generalize lowN p q (e + 2) = m at *
  generalize nP p q e = P at *
  generalize nQ p q e = Q at *
  generalize cN e = c at *
  generalize cN (e + 2) = c' at *
  generalize uN e = u at *
  generalize uN (e + 2) = u' at *
  apply h2.le u2
  have h3 := h1.1
  rw [← sgn_mul c2] at h3
  rw [← sgn_mul c1]
  have a1 : c * (c' * P - 2 * n * u') = c' * (c * P - n * u) := by grind
  have a2 : c * (c' * Q) = c' * (c * Q) := by grind
  rw [a1, a2]
  exact h3
theorem hiN_next (p q e : Int) : hiN p q (e + 2) ≤ 2 * hiN p q e := by
  unfold hiN
  have := lowN_next (-p) (-q) e
  omega
theorem floorN_zero (p : Int) : floorN p 0 = p := by unfold floorN; rw [if_neg (by decide), if_neg (by decide)]
theorem lowN_whole (n : Int) (k : Nat) : lowN 0 n (2 * k - 1) = 2 ^ k * n := by
  unfold lowN nP nQ
  rw [if_neg (show ¬ (2 * (k : Int) - 1) % 2 = 0 by omega), if_neg (show ¬ (2 * (k : Int) - 1) % 2 = 0 by omega), Int.mul_zero, floorN_zero, floorN_zero]
  cases k with
  | zero =>
    rw [if_neg (by decide)]
    show 2 * n / 2 = 1 * n
    omega
  | succ k =>
    rw [if_pos (by omega), show ((2 * ((k + 1 : Nat) : Int) - 1) / 2).toNat = k by omega, Int.pow_succ]
    grind
theorem lowN_zero (e : Int) : lowN 0 0 e = 0 := by
  unfold lowN nP nQ
  simp [floorN_zero]
end Amp
