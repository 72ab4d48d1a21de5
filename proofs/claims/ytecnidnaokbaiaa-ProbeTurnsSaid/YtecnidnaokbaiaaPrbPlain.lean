/- Layer 9, plainly: fringes and readings. No condition. -/
namespace Prb

structure Fr where
  m : Int
  x : Int
  y : Int
  deriving DecidableEq
def vldB (m x y : Int) : Bool := decide (0 ≤ m ∧ m ≤ 2000000) && decide (-1000000 ≤ x ∧ x ≤ 1000000) && decide (-1000000 ≤ y ∧ y ≤ 1000000) && decide (x * x + y * y ≤ m * m)
theorem vldB_iff {m x y : Int} : vldB m x y = true ↔ (0 ≤ m ∧ m ≤ 2000000) ∧ (-1000000 ≤ x ∧ x ≤ 1000000) ∧ (-1000000 ≤ y ∧ y ≤ 1000000) ∧ x * x + y * y ≤ m * m := by
  unfold vldB
  simp only [Bool.and_eq_true, decide_eq_true_eq, and_assoc]
def rdB (a : Int) : Bool := decide (0 ≤ a ∧ a ≤ 1000000)
/-- A fringe and an error. -/
structure FrE where
  m : Int
  x : Int
  y : Int
  e : Int
def frN (a b c d : Int) : FrE := if rdB a && rdB b && rdB c && rdB d then (if a + c = b + d ∧ vldB (a + c) (a - c) (b - d) = true then ⟨a + c, a - c, b - d, 0⟩ else ⟨0, 0, 0, 90⟩) else ⟨0, 0, 0, 2⟩
def evB (t : Int) : Bool := decide (t % 2 = 0 ∧ 0 ≤ t ∧ t ≤ 2000000)
structure RdE where
  a : Int
  b : Int
  c : Int
  d : Int
  e : Int
def rdN (m x y : Int) : RdE := if vldB m x y = true then (if evB (m + x) && evB (m + y) && evB (m - x) && evB (m - y) then ⟨(m + x) / 2, (m + y) / 2, (m - x) / 2, (m - y) / 2, 0⟩ else ⟨0, 0, 0, 0, 2⟩) else ⟨0, 0, 0, 0, 90⟩

theorem rdB_iff {a : Int} : rdB a = true ↔ 0 ≤ a ∧ a ≤ 1000000 := by simp [rdB]
theorem evB_iff {t : Int} : evB t = true ↔ t % 2 = 0 ∧ 0 ≤ t ∧ t ≤ 2000000 := by simp [evB]
theorem frN_cases (a b c d : Int) : (∃ e, e ≠ 0 ∧ frN a b c d = ⟨0, 0, 0, e⟩) ∨ (frN a b c d = ⟨a + c, a - c, b - d, 0⟩ ∧ (0 ≤ a ∧ a ≤ 1000000) ∧ (0 ≤ b ∧ b ≤ 1000000) ∧ (0 ≤ c ∧ c ≤ 1000000) ∧ (0 ≤ d ∧ d ≤ 1000000) ∧ a + c = b + d ∧ vldB (a + c) (a - c) (b - d) = true) := by
  unfold frN
  split
  · rename_i h
    simp only [Bool.and_eq_true, rdB_iff] at h
    obtain ⟨⟨⟨h1, h2⟩, h3⟩, h4⟩ := h
    split
    · rename_i k; exact .inr ⟨rfl, h1, h2, h3, h4, k.1, k.2⟩
    · exact .inl ⟨90, by decide, rfl⟩
  · exact .inl ⟨2, by decide, rfl⟩
/-- The readings of the fringe of readings. -/
theorem rd_fr {a b c d : Int} (ha : 0 ≤ a ∧ a ≤ 1000000) (hb : 0 ≤ b ∧ b ≤ 1000000) (hc : 0 ≤ c ∧ c ≤ 1000000) (hd : 0 ≤ d ∧ d ≤ 1000000) (h : a + c = b + d) (hv : vldB (a + c) (a - c) (b - d) = true) : rdN (a + c) (a - c) (b - d) = ⟨a, b, c, d, 0⟩ := by
  unfold rdN
  rw [if_pos hv, if_pos]
  · rw [show (a + c + (a - c)) / 2 = a by omega, show (a + c + (b - d)) / 2 = b by omega, show (a + c - (a - c)) / 2 = c by omega, show (a + c - (b - d)) / 2 = d by omega]
  · simp only [Bool.and_eq_true, evB_iff]
    omega
theorem sq_bd {x B : Int} (h1 : -B ≤ x) (h2 : x ≤ B) : 0 ≤ x * x ∧ x * x ≤ B * B := by
  rcases Int.lt_or_le x 0 with h | h
  · have a1 : -x * -x = x * x := by grind
    have a2 : -x * -x ≤ B * B := Int.mul_le_mul (by omega) (by omega) (by omega) (by omega)
    have a3 : 0 ≤ -x * -x := Int.mul_nonneg (by omega) (by omega)
    omega
  · exact ⟨Int.mul_nonneg h h, Int.mul_le_mul (by omega) (by omega) (by omega) (by omega)⟩
end Prb
