/- Layer 1, plainly: the sign of a + b r, where r is the root of 2. No condition. -/
import Derived.Test.YtecnidnaokbaiaaAmpAlgC
namespace Amp

def PosA (a b : Int) : Prop := 0 < a ∧ 2 * (b * b) < a * a
def PosB (a b : Int) : Prop := 0 < b ∧ a * a < 2 * (b * b)
def Pos (a b : Int) : Prop := PosA a b ∨ PosB a b
instance (a b : Int) : Decidable (Pos a b) := by unfold Pos PosA PosB; infer_instance
def sgn (a b : Int) : Int := if a = 0 ∧ b = 0 then 0 else if Pos a b then 1 else -1

theorem irr_nat : ∀ (n a b : Nat), a ≤ n → a * a = 2 * (b * b) → a = 0
  | 0, a, b, h, _ => by omega
  | n + 1, a, b, h, e => by
    rcases Nat.eq_zero_or_pos a with h0 | h0
    · exact h0
    exfalso
    have h2 : a % 2 = 0 := by
      rcases Nat.mod_two_eq_zero_or_one a with h | h
      · exact h
      · have : a * a % 2 = 1 := by rw [Nat.mul_mod, h]
        omega
    obtain ⟨c, rfl⟩ : ∃ c, a = 2 * c := ⟨a / 2, by omega⟩
    have e2 : b * b = 2 * (c * c) := by
      have : 2 * c * (2 * c) = 4 * (c * c) := by rw [Nat.mul_mul_mul_comm]
      omega
    have hb : b < 2 * c := by
      apply Nat.lt_of_not_le
      intro hle
      have h1 : 2 * c * (2 * c) ≤ b * b := Nat.mul_le_mul hle hle
      have h3 : 0 < c * c := Nat.mul_pos (by omega) (by omega)
      have : 2 * c * (2 * c) = 4 * (c * c) := by rw [Nat.mul_mul_mul_comm]
      omega
    have hb0 := irr_nat n b c (by omega) e2
    subst hb0
    have h3 : 0 < c * c := Nat.mul_pos (by omega) (by omega)
    omega
theorem sq_nat (a : Int) : a * a = ((a.natAbs * a.natAbs : Nat) : Int) := by
  rw [Int.natCast_mul]; exact (Int.natAbs_mul_self' a).symm
theorem irr {a b : Int} (h : a * a = 2 * (b * b)) : a = 0 ∧ b = 0 := by
  rw [sq_nat a, sq_nat b] at h
  have h1 : a.natAbs * a.natAbs = 2 * (b.natAbs * b.natAbs) := by omega
  have h2 := irr_nat _ _ _ (Nat.le_refl _) h1
  rw [h2] at h1
  have h3 : b.natAbs * b.natAbs = 0 := by omega
  have h4 : b.natAbs = 0 := by
    rcases Nat.mul_eq_zero.1 h3 with h | h <;> exact h
  omega
theorem sq_pos {a : Int} (h : a ≠ 0) : 0 < a * a := by
  rw [sq_nat]
  have : 0 < a.natAbs * a.natAbs := Nat.mul_pos (by omega) (by omega)
  omega
theorem sq_nonneg (a : Int) : 0 ≤ a * a := by
  rw [sq_nat]; omega
theorem lt_of_sq {x y : Int} (hy : 0 ≤ y) (h : x * x < y * y) : x < y := by
  apply Int.lt_of_not_ge
  intro hle
  have : y * y ≤ x * x := Int.mul_le_mul hle hle hy (Int.le_trans hy hle)
  omega
theorem sq_mul (a b : Int) : a * b * (a * b) = a * a * (b * b) := by grind

theorem PosA.add {a b c d : Int} (h : PosA a b) (k : PosA c d) : PosA (a + c) (b + d) := by
  obtain ⟨ha, h⟩ := h
  obtain ⟨hc, k⟩ := k
  refine ⟨by omega, ?_⟩
  have hac : 0 < a * c := Int.mul_pos ha hc
  have hc2 : 0 < c * c := Int.mul_pos hc hc
  have h1 : 2 * (b * b) * (c * c) < a * a * (c * c) := Int.mul_lt_mul_of_pos_right h hc2
  have h2 : 2 * (b * b) * (2 * (d * d)) ≤ 2 * (b * b) * (c * c) := Int.mul_le_mul_of_nonneg_left (Int.le_of_lt k) (by have := sq_nonneg b; omega)
  have h3 : 2 * (b * d) < a * c := by
    apply lt_of_sq (Int.le_of_lt hac)
    have e1 : 2 * (b * d) * (2 * (b * d)) = 2 * (b * b) * (2 * (d * d)) := by grind
    have e2 : a * c * (a * c) = a * a * (c * c) := by grind
    rw [e1, e2]; omega
  have e3 : (b + d) * (b + d) = b * b + 2 * (b * d) + d * d := by grind
  have e4 : (a + c) * (a + c) = a * a + 2 * (a * c) + c * c := by grind
  rw [e3, e4]; omega
theorem PosB.add {a b c d : Int} (h : PosB a b) (k : PosB c d) : PosB (a + c) (b + d) := by
  obtain ⟨hb, h⟩ := h
  obtain ⟨hd, k⟩ := k
  refine ⟨by omega, ?_⟩
  have hbd : 0 < b * d := Int.mul_pos hb hd
  have hd2 : 0 < d * d := Int.mul_pos hd hd
  have h1 : a * a * (2 * (d * d)) < 2 * (b * b) * (2 * (d * d)) := Int.mul_lt_mul_of_pos_right h (by omega)
  have h2 : a * a * (c * c) ≤ a * a * (2 * (d * d)) := Int.mul_le_mul_of_nonneg_left (Int.le_of_lt k) (sq_nonneg a)
  have h3 : a * c < 2 * (b * d) := by
    apply lt_of_sq (by omega)
    have e1 : 2 * (b * d) * (2 * (b * d)) = 2 * (b * b) * (2 * (d * d)) := by grind
    have e2 : a * c * (a * c) = a * a * (c * c) := by grind
    rw [e1, e2]; omega
  have e3 : (b + d) * (b + d) = b * b + 2 * (b * d) + d * d := by grind
  have e4 : (a + c) * (a + c) = a * a + 2 * (a * c) + c * c := by grind
  rw [e3, e4]; omega
theorem neg_sq (a : Int) : -a * -a = a * a := by grind
theorem pos_cases (a b : Int) : (a = 0 ∧ b = 0) ∨ Pos a b ∨ Pos (-a) (-b) := by
  unfold Pos PosA PosB
  rw [neg_sq, neg_sq]
  rcases Int.lt_trichotomy (a * a) (2 * (b * b)) with h | h | h
  · rcases Int.lt_trichotomy b 0 with hb | hb | hb
    · exact .inr (.inr (.inr ⟨by omega, h⟩))
    · subst hb; have := sq_nonneg a; omega
    · exact .inr (.inl (.inr ⟨by omega, h⟩))
  · exact .inl (irr h)
  · rcases Int.lt_trichotomy a 0 with hb | hb | hb
    · exact .inr (.inr (.inl ⟨by omega, h⟩))
    · subst hb; have := sq_nonneg b; omega
    · exact .inr (.inl (.inl ⟨by omega, h⟩))
theorem Pos.not_zero {a b : Int} (h : Pos a b) : ¬ (a = 0 ∧ b = 0) := by
  rintro ⟨rfl, rfl⟩
  rcases h with ⟨h, _⟩ | ⟨h, _⟩ <;> omega
theorem Pos.not_neg {a b : Int} (h : Pos a b) : ¬ Pos (-a) (-b) := by
  unfold Pos PosA PosB at *
  rw [neg_sq, neg_sq]
  omega
theorem Pos.add_ab {a b c d : Int} (h : PosA a b) (k : PosB c d) : Pos (a + c) (b + d) := by
  rcases pos_cases (a + c) (b + d) with ⟨h1, h2⟩ | h1 | h1
  · obtain ⟨_, h⟩ := h
    obtain ⟨_, k⟩ := k
    obtain rfl : c = -a := by omega
    obtain rfl : d = -b := by omega
    rw [neg_sq, neg_sq] at k
    omega
  · exact h1
  · exfalso
    rcases h1 with h1 | h1
    · have h2 := h1.add h
      rw [show -(a + c) + a = -c by omega, show -(b + d) + b = -d by omega] at h2
      obtain ⟨_, h2⟩ := h2
      obtain ⟨_, k⟩ := k
      rw [neg_sq, neg_sq] at h2
      omega
    · have h2 := h1.add k
      rw [show -(a + c) + c = -a by omega, show -(b + d) + d = -b by omega] at h2
      obtain ⟨_, h2⟩ := h2
      obtain ⟨_, h⟩ := h
      rw [neg_sq, neg_sq] at h2
      omega
theorem Pos.add {a b c d : Int} (h : Pos a b) (k : Pos c d) : Pos (a + c) (b + d) := by
  rcases h with h | h <;> rcases k with k | k
  · exact .inl (h.add k)
  · exact Pos.add_ab h k
  · rw [Int.add_comm a, Int.add_comm b]; exact Pos.add_ab k h
  · exact .inr (h.add k)

theorem sgn_zero : sgn 0 0 = 0 := by decide
theorem sgn_pos {a b : Int} (h : Pos a b) : sgn a b = 1 := by
  unfold sgn; rw [if_neg h.not_zero, if_pos h]
theorem sgn_negp {a b : Int} (h : Pos (-a) (-b)) : sgn a b = -1 := by
  unfold sgn
  rw [if_neg (by have := h.not_zero; omega), if_neg (by intro h'; have := h'.not_neg; exact this h)]
theorem sgn_cases (a b : Int) : (a = 0 ∧ b = 0 ∧ sgn a b = 0) ∨ (Pos a b ∧ sgn a b = 1) ∨ (Pos (-a) (-b) ∧ sgn a b = -1) := by
  rcases pos_cases a b with ⟨rfl, rfl⟩ | h | h
  · exact .inl ⟨rfl, rfl, sgn_zero⟩
  · exact .inr (.inl ⟨h, sgn_pos h⟩)
  · exact .inr (.inr ⟨h, sgn_negp h⟩)
theorem sgn_eq_zero {a b : Int} : sgn a b = 0 ↔ a = 0 ∧ b = 0 := by
  rcases sgn_cases a b with ⟨h1, h2, h⟩ | ⟨h1, h⟩ | ⟨h1, h⟩
  · rw [h]; simp [h1, h2]
  · rw [h]; have := h1.not_zero; omega
  · rw [h]; have := h1.not_zero; omega
theorem sgn_eq_one {a b : Int} : sgn a b = 1 ↔ Pos a b := by
  rcases sgn_cases a b with ⟨h1, h2, h⟩ | ⟨h1, h⟩ | ⟨h1, h⟩
  · rw [h]; constructor
    · omega
    · intro h3; exact absurd ⟨h1, h2⟩ h3.not_zero
  · rw [h]; simp [h1]
  · rw [h]; constructor
    · omega
    · intro h3; exact absurd h1 h3.not_neg
theorem sgn_opp (a b : Int) : sgn (-a) (-b) = -sgn a b := by
  rcases sgn_cases a b with ⟨rfl, rfl, h⟩ | ⟨h1, h⟩ | ⟨h1, h⟩
  · rfl
  · rw [h]; exact sgn_negp (by rw [Int.neg_neg, Int.neg_neg]; exact h1)
  · rw [h]; exact sgn_pos h1
theorem sgn_le (a b : Int) : -1 ≤ sgn a b ∧ sgn a b ≤ 1 := by
  rcases sgn_cases a b with ⟨h1, h2, h⟩ | ⟨h1, h⟩ | ⟨h1, h⟩ <;> rw [h] <;> omega
/-- Two of one sign, or one of none. -/
theorem sgn_add {a b c d : Int} (h : sgn a b = sgn c d) : sgn (a + c) (b + d) = sgn a b := by
  rcases sgn_cases a b with ⟨h1, h2, h3⟩ | ⟨h1, h3⟩ | ⟨h1, h3⟩
  · rw [h3] at h
    obtain ⟨rfl, rfl⟩ := sgn_eq_zero.1 h.symm
    rw [Int.add_zero, Int.add_zero]
  · rw [h3] at h
    rw [h3]
    exact sgn_pos (h1.add (sgn_eq_one.1 h.symm))
  · rw [h3] at h
    rw [h3]
    apply sgn_negp
    rw [Int.neg_add, Int.neg_add]
    apply h1.add
    rcases sgn_cases c d with ⟨_, _, h4⟩ | ⟨_, h4⟩ | ⟨h5, _⟩
    · omega
    · omega
    · exact h5
theorem sgn_add_zero {a b c d : Int} (h : sgn a b = 0) : sgn (a + c) (b + d) = sgn c d := by
  obtain ⟨rfl, rfl⟩ := sgn_eq_zero.1 h
  rw [Int.zero_add, Int.zero_add]
/-- r times a number has its sign. -/
theorem pos_root (a b : Int) : Pos (2 * b) a ↔ Pos a b := by
  unfold Pos PosA PosB
  have e : 2 * b * (2 * b) = 4 * (b * b) := by grind
  rw [e]
  omega
theorem sgn_root (a b : Int) : sgn (2 * b) a = sgn a b := by
  rcases sgn_cases a b with ⟨rfl, rfl, h⟩ | ⟨h1, h⟩ | ⟨h1, h⟩
  · rfl
  · rw [h]; exact sgn_pos ((pos_root a b).2 h1)
  · rw [h]
    apply sgn_negp
    rw [show -(2 * b) = 2 * (-b) by omega]
    exact (pos_root (-a) (-b)).2 h1
end Amp
