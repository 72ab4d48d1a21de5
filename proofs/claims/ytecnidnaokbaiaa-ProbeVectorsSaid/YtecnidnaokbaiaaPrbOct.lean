/- Layer 9, plainly: which of eight directions a vector is nearest to. No condition. -/
import Derived.Test.YtecnidnaokbaiaaAmpSgn
namespace Prb
open Amp
/-- Twice the part along the direction k: fA + fB r. -/
def fA (k : Nat) (x y : Int) : Int := match k with | 0 => 2 * x | 2 => 2 * y | 4 => -(2 * x) | 6 => -(2 * y) | _ => 0
def fB (k : Nat) (x y : Int) : Int := match k with | 1 => x + y | 3 => y - x | 5 => -(x + y) | 7 => x - y | _ => 0
def Over (x y : Int) (k j : Nat) : Prop := Pos (fA k x y - fA j x y) (fB k x y - fB j x y)
def q1 (x y : Int) : Nat := if (x + y) * (x + y) < 2 * x * x then 0 else if (x + y) * (x + y) < 2 * y * y then 2 else 1
def octN (x y : Int) : Nat := if 0 < x ∧ 0 ≤ y then q1 x y else if 0 < y ∧ x ≤ 0 then q1 y (-x) + 2 else if x < 0 ∧ y ≤ 0 then q1 (-x) (-y) + 4 else (q1 (-y) x + 6) % 8
theorem q1_le (x y : Int) : q1 x y ≤ 2 := by unfold q1; split <;> (try split) <;> omega
theorem octN_lt (x y : Int) : octN x y < 8 := by
  unfold octN
  have h1 := q1_le x y
  have h2 := q1_le y (-x)
  have h3 := q1_le (-x) (-y)
  split
  · omega
  · split
    · omega
    · split <;> omega
theorem lt8 {j : Nat} (h : j < 8) : j = 0 ∨ j = 1 ∨ j = 2 ∨ j = 3 ∨ j = 4 ∨ j = 5 ∨ j = 6 ∨ j = 7 := by omega
theorem sq_mono {a b : Int} (h1 : -b ≤ a) (h2 : a ≤ b) : a * a ≤ b * b := by
  rcases Int.lt_or_le a 0 with h | h
  · have e : -a * -a = a * a := by grind
    have : -a * -a ≤ b * b := Int.mul_le_mul (by omega) (by omega) (by omega) (by omega)
    omega
  · exact Int.mul_le_mul h2 h2 h (by omega)
theorem pA {a b : Int} (h : 0 < a) (k : 2 * (b * b) < a * a) : Pos a b := .inl ⟨h, k⟩
theorem pB {a b : Int} (h : 0 < b) (k : a * a < 2 * (b * b)) : Pos a b := .inr ⟨h, k⟩
theorem sq2 (x : Int) : 2 * x * (2 * x) = 4 * (x * x) := by grind
theorem best_q1 {x y : Int} (hx : 0 < x) (hy : 0 ≤ y) {j : Nat} (hj : j < 8) (hne : j ≠ q1 x y) : Over x y (q1 x y) j := by
  have e0 : 2 * x * x = 2 * (x * x) := by grind
  have e1 : 2 * y * y = 2 * (y * y) := by grind
  have hxx : 0 < x * x := Int.mul_pos hx hx
  by_cases h0 : (x + y) * (x + y) < 2 * (x * x)
  · have hq : q1 x y = 0 := by unfold q1; rw [e0, if_pos h0]
    rw [hq] at hne ⊢
    have hlt : y < x := by
      apply Int.lt_of_not_ge
      intro hge
      have := sq_mono (a := 2 * x) (b := x + y) (by omega) (by omega)
      rw [sq2] at this
      omega
    have h1 := sq_mono (a := x - y) (b := x) (by omega) (by omega)
    have h1' : (y - x) * (y - x) = (x - y) * (x - y) := by grind
    have h2 : -(x + y) * -(x + y) = (x + y) * (x + y) := by grind
    have h3 : (2 * x - 2 * y) * (2 * x - 2 * y) = 4 * ((x - y) * (x - y)) := by grind
    have hxy : 0 < (x - y) * (x - y) := Int.mul_pos (by omega) (by omega)
    rcases lt8 hj with rfl | rfl | rfl | rfl | rfl | rfl | rfl | rfl
    · exact absurd rfl hne
    · unfold Over fA fB; simp only; refine pA (by omega) ?_
      rw [show 2 * x - 0 = 2 * x by omega, show 0 - (x + y) = -(x + y) by omega, sq2, h2]; omega
    · unfold Over fA fB; simp only; refine pA (by omega) ?_
      rw [h3]; omega
    · unfold Over fA fB; simp only; refine pA (by omega) ?_
      rw [show 2 * x - 0 = 2 * x by omega, show 0 - (y - x) = x - y by omega, sq2]; omega
    · unfold Over fA fB; simp only; refine pA (by omega) ?_
      rw [show 2 * x - -(2 * x) = 2 * (2 * x) by omega, sq2, sq2]; omega
    · unfold Over fA fB; simp only; refine pA (by omega) ?_
      rw [show 2 * x - 0 = 2 * x by omega, show 0 - -(x + y) = x + y by omega, sq2]; omega
    · unfold Over fA fB; simp only; refine pA (by omega) ?_
      rw [show 2 * x - -(2 * y) = 2 * (x + y) by omega, sq2]
      have : 0 < (x + y) * (x + y) := Int.mul_pos (by omega) (by omega)
      omega
    · unfold Over fA fB; simp only; refine pA (by omega) ?_
      rw [show 2 * x - 0 = 2 * x by omega, show 0 - (x - y) = y - x by omega, sq2, h1']; omega
  · by_cases h1 : (x + y) * (x + y) < 2 * (y * y)
    · have hq : q1 x y = 2 := by unfold q1; rw [e0, if_neg h0, e1, if_pos h1]
      rw [hq] at hne ⊢
      have hy0 : 0 < y := by
        apply Int.lt_of_not_ge
        intro hge
        obtain rfl : y = 0 := by omega
        have := sq_nonneg (x + 0)
        omega
      have hlt : x < y := by
        apply Int.lt_of_not_ge
        intro hge
        have := sq_mono (a := 2 * y) (b := x + y) (by omega) (by omega)
        rw [sq2] at this
        have := Int.mul_pos hy0 hy0
        omega
      have h2 := sq_mono (a := y - x) (b := y) (by omega) (by omega)
      have hyy : 0 < y * y := Int.mul_pos hy0 hy0
      have h2' : (x - y) * (x - y) = (y - x) * (y - x) := by grind
      have h3 : -(x + y) * -(x + y) = (x + y) * (x + y) := by grind
      have h4 : (2 * y - 2 * x) * (2 * y - 2 * x) = 4 * ((y - x) * (y - x)) := by grind
      have hxy : 0 < (y - x) * (y - x) := Int.mul_pos (by omega) (by omega)
      rcases lt8 hj with rfl | rfl | rfl | rfl | rfl | rfl | rfl | rfl
      · unfold Over fA fB; simp only; refine pA (by omega) ?_
        rw [h4]; omega
      · unfold Over fA fB; simp only; refine pA (by omega) ?_
        rw [show 2 * y - 0 = 2 * y by omega, show 0 - (x + y) = -(x + y) by omega, sq2, h3]; omega
      · exact absurd rfl hne
      · unfold Over fA fB; simp only; refine pA (by omega) ?_
        rw [show 2 * y - 0 = 2 * y by omega, show 0 - (y - x) = x - y by omega, sq2, h2']; omega
      · unfold Over fA fB; simp only; refine pA (by omega) ?_
        rw [show 2 * y - -(2 * x) = 2 * (x + y) by omega, sq2]
        have : 0 < (x + y) * (x + y) := Int.mul_pos (by omega) (by omega)
        omega
      · unfold Over fA fB; simp only; refine pA (by omega) ?_
        rw [show 2 * y - 0 = 2 * y by omega, show 0 - -(x + y) = x + y by omega, sq2]; omega
      · unfold Over fA fB; simp only; refine pA (by omega) ?_
        rw [show 2 * y - -(2 * y) = 2 * (2 * y) by omega, sq2, sq2]; omega
      · unfold Over fA fB; simp only; refine pA (by omega) ?_
        rw [show 2 * y - 0 = 2 * y by omega, show 0 - (x - y) = y - x by omega, sq2]; omega
    · have hq : q1 x y = 1 := by unfold q1; rw [e0, if_neg h0, e1, if_neg h1]
      rw [hq] at hne ⊢
      have n0 : (x + y) * (x + y) ≠ 2 * (x * x) := fun he => by have := (irr he).2; omega
      have n1 : (x + y) * (x + y) ≠ 2 * (y * y) := fun he => by have := (irr he).1; omega
      have hy0 : 0 < y := by
        apply Int.lt_of_not_ge
        intro hge
        obtain rfl : y = 0 := by omega
        rw [Int.add_zero] at h0
        omega
      have h2 : -(2 * x) * -(2 * x) = 4 * (x * x) := by grind
      have h3 : -(2 * y) * -(2 * y) = 4 * (y * y) := by grind
      rcases lt8 hj with rfl | rfl | rfl | rfl | rfl | rfl | rfl | rfl
      · unfold Over fA fB; simp only; refine pB (by omega) ?_
        rw [show 0 - 2 * x = -(2 * x) by omega, show x + y - 0 = x + y by omega, h2]; omega
      · exact absurd rfl hne
      · unfold Over fA fB; simp only; refine pB (by omega) ?_
        rw [show 0 - 2 * y = -(2 * y) by omega, show x + y - 0 = x + y by omega, h3]; omega
      · unfold Over fA fB; simp only; refine pB (by omega) ?_
        rw [show x + y - (y - x) = 2 * x by omega, sq2]; omega
      · unfold Over fA fB; simp only; refine pB (by omega) ?_
        rw [show 0 - -(2 * x) = 2 * x by omega, show x + y - 0 = x + y by omega, sq2]; omega
      · unfold Over fA fB; simp only; refine pB (by omega) ?_
        rw [show x + y - -(x + y) = 2 * (x + y) by omega, sq2]
        have : 0 < (x + y) * (x + y) := Int.mul_pos (by omega) (by omega)
        omega
      · unfold Over fA fB; simp only; refine pB (by omega) ?_
        rw [show 0 - -(2 * y) = 2 * y by omega, show x + y - 0 = x + y by omega, sq2]; omega
      · unfold Over fA fB; simp only; refine pB (by omega) ?_
        rw [show x + y - (x - y) = 2 * y by omega, sq2]
        have := Int.mul_pos hy0 hy0
        omega
theorem f_rot {k : Nat} (hk : k < 8) (x y : Int) : fA ((k + 2) % 8) x y = fA k y (-x) ∧ fB ((k + 2) % 8) x y = fB k y (-x) := by
  rcases lt8 hk with rfl | rfl | rfl | rfl | rfl | rfl | rfl | rfl <;> simp [fA, fB] <;> omega
theorem over_rot {x y : Int} {k j : Nat} (hk : k < 8) (hj : j < 8) (h : Over y (-x) k j) : Over x y ((k + 2) % 8) ((j + 2) % 8) := by
  unfold Over at *
  rw [(f_rot hk x y).1, (f_rot hk x y).2, (f_rot hj x y).1, (f_rot hj x y).2]
  exact h
theorem rot_best {x y : Int} {o : Nat} (ho : o < 8) (h : ∀ j, j < 8 → j ≠ o → Over y (-x) o j) : ∀ j, j < 8 → j ≠ (o + 2) % 8 → Over x y ((o + 2) % 8) j := by
  intro j hj hne
  have := over_rot ho (show (j + 6) % 8 < 8 by omega) (h ((j + 6) % 8) (by omega) (by omega))
  rwa [show ((j + 6) % 8 + 2) % 8 = j by omega] at this
/-- The octant is the nearest direction, and no other is as near. -/
theorem best_oct {x y : Int} (h : ¬ (x = 0 ∧ y = 0)) : ∀ j, j < 8 → j ≠ octN x y → Over x y (octN x y) j := by
  unfold octN
  by_cases h1 : 0 < x ∧ 0 ≤ y
  · rw [if_pos h1]; exact fun j hj hne => best_q1 h1.1 h1.2 hj hne
  rw [if_neg h1]
  by_cases h2 : 0 < y ∧ x ≤ 0
  · rw [if_pos h2]
    have := rot_best (x := x) (y := y) (o := q1 y (-x)) (by have := q1_le y (-x); omega) fun j hj hne => best_q1 h2.1 (by omega) hj hne
    rwa [show (q1 y (-x) + 2) % 8 = q1 y (-x) + 2 by have := q1_le y (-x); omega] at this
  rw [if_neg h2]
  by_cases h3 : x < 0 ∧ y ≤ 0
  · rw [if_pos h3]
    have a := rot_best (x := y) (y := -x) (o := q1 (-x) (-y)) (by have := q1_le (-x) (-y); omega) fun j hj hne => best_q1 (by omega) (by omega) hj hne
    have b := rot_best (x := x) (y := y) (by have := q1_le (-x) (-y); omega) a
    rwa [show ((q1 (-x) (-y) + 2) % 8 + 2) % 8 = q1 (-x) (-y) + 4 by have := q1_le (-x) (-y); omega] at b
  rw [if_neg h3]
  have a := rot_best (x := -x) (y := -y) (o := q1 (-y) x) (by have := q1_le (-y) x; omega) (fun j hj hne => by rw [Int.neg_neg]; exact best_q1 (by omega) (by omega) hj hne)
  have b := rot_best (x := y) (y := -x) (by have := q1_le (-y) x; omega) a
  have c := rot_best (x := x) (y := y) (by have := q1_le (-y) x; omega) b
  rwa [show (((q1 (-y) x + 2) % 8 + 2) % 8 + 2) % 8 = (q1 (-y) x + 6) % 8 by omega] at c
theorem over_not {x y : Int} {k j : Nat} (h : Over x y k j) : ¬ Over x y j k := by
  intro h2
  apply h.not_neg
  rw [show -(fA k x y - fA j x y) = fA j x y - fA k x y by omega, show -(fB k x y - fB j x y) = fB j x y - fB k x y by omega]
  exact h2
/-- Turned by a quarter, and by a half. -/
theorem oct_unique {x y : Int} (h : ¬ (x = 0 ∧ y = 0)) {o : Nat} (ho : o < 8) (hb : ∀ j, j < 8 → j ≠ o → Over x y o j) : o = octN x y := by
  apply Classical.byContradiction
  intro hne
  exact over_not (hb (octN x y) (octN_lt x y) (Ne.symm hne)) (best_oct h o ho hne)
theorem oct_quarter {x y : Int} (h : ¬ (x = 0 ∧ y = 0)) : octN x y = (octN y (-x) + 2) % 8 :=
  (oct_unique h (Nat.mod_lt _ (by decide)) (rot_best (octN_lt _ _) (best_oct (by omega)))).symm
theorem oct_half {x y : Int} (h : ¬ (x = 0 ∧ y = 0)) : octN (-x) (-y) = (octN x y + 4) % 8 := by
  have h1 := oct_quarter h
  have h2 := oct_quarter (x := y) (y := -x) (by omega)
  have := octN_lt (-x) (-y)
  omega
end Prb
