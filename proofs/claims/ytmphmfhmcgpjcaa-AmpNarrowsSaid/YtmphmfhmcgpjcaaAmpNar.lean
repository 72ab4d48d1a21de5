/- Layer 1, plainly: bounds of bounds. No condition. -/
import Derived.Test.YtmphmfhmcgpjcaaAmpY
namespace Go.Proofs.Ytmphmfhmcgpjcaa
open Go Amp
theorem floorN_bd2 (p q : Int) (h1 : -1073741824000000000 ≤ q) (h2 : q ≤ 1073741824000000000) (h3 : -1073741824000000000 ≤ p) (h4 : p ≤ 1073741824000000000) : -2700000000000000000 ≤ floorN p q ∧ floorN p q ≤ 2700000000000000000 := by
  have hi : isq (2 * (q.natAbs * q.natAbs)) ≤ 1610612736000000000 := by
    apply Nat.le_of_not_lt
    intro hgt
    have g1 := (isq_spec (2 * (q.natAbs * q.natAbs))).1
    have g2 : 1610612736000000001 * 1610612736000000001 ≤ isq (2 * (q.natAbs * q.natAbs)) * isq (2 * (q.natAbs * q.natAbs)) := Nat.mul_le_mul hgt hgt
    have g3 : q.natAbs * q.natAbs ≤ 1073741824000000000 * 1073741824000000000 := Nat.mul_le_mul (by omega) (by omega)
    omega
  unfold floorN
  generalize isq (2 * (q.natAbs * q.natAbs)) = r at *
  split
  · omega
  · split <;> omega
theorem pow29 {m : Nat} (hm : m ≤ 29) {x : Int} (h1 : -2000000000 ≤ x) (h2 : x ≤ 2000000000) : (-1073741824000000000 ≤ 2 ^ m * x ∧ 2 ^ m * x ≤ 1073741824000000000) := by
  have hp : (2 : Int) ^ m ≤ 536870912 := by
    have h1 : (2 : Nat) ^ m ≤ 2 ^ 29 := Nat.pow_le_pow_right (by decide) hm
    have h2 : ((2 ^ m : Nat) : Int) ≤ ((2 ^ 29 : Nat) : Int) := Int.ofNat_le.2 h1
    simpa using h2
  have h0 := two_pos m
  have a1 : 2 ^ m * x ≤ 2 ^ m * 2000000000 := Int.mul_le_mul_of_nonneg_left h2 (by omega)
  have a2 : 2 ^ m * -2000000000 ≤ 2 ^ m * x := Int.mul_le_mul_of_nonneg_left h1 (by omega)
  omega
theorem lowN_bd2 (q p e : Int) (p1 : -1000000000 ≤ p) (p2 : p ≤ 1000000000) (q1 : -2000000000 ≤ q) (q2 : q ≤ 2000000000) (he : e ≤ 59) : -2700000000000000000 ≤ lowN q p e ∧ lowN q p e ≤ 2700000000000000000 := by
  have hP : -2000000000 ≤ nP q p e ∧ nP q p e ≤ 2000000000 := by unfold nP; split <;> omega
  have hQ : -2000000000 ≤ nQ q p e ∧ nQ q p e ≤ 2000000000 := by unfold nQ; split <;> omega
  unfold lowN
  generalize nP q p e = P at *
  generalize nQ q p e = Q at *
  split
  · obtain ⟨i1, i2⟩ := pow29 (m := (e / 2).toNat) (by omega) hP.1 hP.2
    obtain ⟨i3, i4⟩ := pow29 (m := (e / 2).toNat) (by omega) hQ.1 hQ.2
    exact floorN_bd2 _ _ i3 i4 i1 i2
  · obtain ⟨h1, h2⟩ := floorN_bd2 P Q (by omega) (by omega) (by omega) (by omega)
    have hu := two_pos (-(e / 2)).toNat
    generalize (2 : Int) ^ (-(e / 2)).toNat = u at *
    generalize floorN P Q = n at *
    refine ⟨?_, ?_⟩
    · apply (Int.le_ediv_iff_mul_le hu).2
      have : (-2700000000000000000 : Int) * u ≤ -2700000000000000000 * 1 := by omega
      omega
    · have h5 : n / u ≤ 2700000000000000000 / u := Int.ediv_le_ediv hu h2
      have h6 : (2700000000000000000 : Int) / u ≤ 2700000000000000000 := Int.ediv_le_self _ (by decide)
      omega
/-- Two bounds that are next to each other, and those with one bit more between twice these. -/
structure Btw (a b c d : Int) : Prop where
  a1 : -2700000000000000000 ≤ a
  a2 : b ≤ 2700000000000000001
  c1 : -2700000000000000000 ≤ c
  c2 : d ≤ 2700000000000000001
  h1 : a ≤ b
  h2 : b ≤ a + 1
  h3 : c ≤ d
  h4 : d ≤ c + 1
  h5 : 2 * a ≤ c
  h6 : d ≤ 2 * b
theorem btw (q p e : Int) (p1 : -1000000000 ≤ p) (p2 : p ≤ 1000000000) (q1 : -2000000000 ≤ q) (q2 : q ≤ 2000000000) (he : e ≤ 57) : Btw (lowN q p e) (hiN q p e) (lowN q p (e + 2)) (hiN q p (e + 2)) := by
  obtain ⟨i1, i2⟩ := lowN_bd2 q p e p1 p2 q1 q2 (by omega)
  obtain ⟨i3, i4⟩ := lowN_bd2 q p (e + 2) p1 p2 q1 q2 (by omega)
  obtain ⟨j1, j2⟩ := hiN_le q p e
  obtain ⟨j3, j4⟩ := hiN_le q p (e + 2)
  exact ⟨i1, by omega, i3, by omega, j1, j2, j3, j4, lowN_next q p e, hiN_next q p e⟩
theorem bndN_bad {x : C4} {k : Int} (h : ¬ validB x k = true) (b : Int) : bndN x k b = ⟨0, 0, 0, 0, 10⟩ := if_neg h
theorem bndN_good {x : C4} {k : Int} (h : validB x k = true) {b : Int} (h0 : 0 ≤ b) (h1 : b ≤ 30) : bndN x k b = ⟨lowN (x.b - x.d) x.a (2 * b - k - 1), hiN (x.b - x.d) x.a (2 * b - k - 1), lowN (x.b + x.d) x.c (2 * b - k - 1), hiN (x.b + x.d) x.c (2 * b - k - 1), 0⟩ := (if_pos h).trans (if_pos ⟨h0, h1⟩)
theorem bndN_whole (n : Int) (k : Nat) (hk : k ≤ 30) (h1 : -1000 ≤ n) (h2 : n ≤ 1000) : bndN ⟨n, 0, 0, 0⟩ 0 k = ⟨2 ^ k * n, 2 ^ k * n, 0, 0, 0⟩ := by
  have hv : validB ⟨n, 0, 0, 0⟩ 0 = true := by
    simp [validB, smallB, okC]
    omega
  rw [bndN_good hv (by omega) (by omega)]
  simp only
  rw [show (0 : Int) - 0 = 0 from rfl, show (0 : Int) + 0 = 0 from rfl, show 2 * (k : Int) - 0 - 1 = 2 * k - 1 by omega, lowN_whole, lowN_zero]
  have e1 : hiN 0 n (2 * k - 1) = 2 ^ k * n := by
    unfold hiN
    rw [Int.neg_zero, lowN_whole, Int.mul_neg, Int.neg_neg]
  have e2 : hiN 0 0 (2 * (k : Int) - 1) = 0 := by
    unfold hiN
    rw [Int.neg_zero, lowN_zero]; rfl
  rw [e1, e2]
/-- The bounds of a number at two counts of bits. -/
theorem bndN_pair {x : C4} {k : Int} (h : validB x k = true) {b : Int} (h0 : 0 ≤ b) (h1 : b ≤ 29) : ∃ a a' c c' d d' f f' : Int, bndN x k b = ⟨a, a', c, c', 0⟩ ∧ bndN x k (b + 1) = ⟨d, d', f, f', 0⟩ ∧ Btw a a' d d' ∧ Btw c c' f f' := by
  obtain ⟨⟨_, _⟩, ⟨_, _⟩, ⟨_, _⟩, ⟨_, _⟩⟩ := smallB_iff.1 (validB_small h)
  obtain ⟨_, _⟩ := validB_k h
  refine ⟨_, _, _, _, _, _, _, _, bndN_good h h0 (by omega), bndN_good h (by omega) (by omega), ?_, ?_⟩
  · have := btw (x.b - x.d) x.a (2 * b - k - 1) (by omega) (by omega) (by omega) (by omega) (by omega)
    rwa [show 2 * b - k - 1 + 2 = 2 * (b + 1) - k - 1 by omega] at this
  · have := btw (x.b + x.d) x.c (2 * b - k - 1) (by omega) (by omega) (by omega) (by omega) (by omega)
    rwa [show 2 * b - k - 1 + 2 = 2 * (b + 1) - k - 1 by omega] at this
end Go.Proofs.Ytmphmfhmcgpjcaa
