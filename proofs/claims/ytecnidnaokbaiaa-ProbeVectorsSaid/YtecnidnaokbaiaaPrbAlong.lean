/- Layer 9, plainly: the parts of a vector along eight directions, by the numbers of layer 1. No condition. -/
import Derived.Test.YtecnidnaokbaiaaPrbOct
import Derived.Test.YtecnidnaokbaiaaAmpV
namespace Go.Proofs.Ytecnidnaokbaiaa
open Go Amp Prb
def vec (x y : Int) : C4 := ⟨x, 0, y, 0⟩
def alngV (k : Nat) (x y : Int) : C4 := ⟨fA k x y, fB k x y, 0, -fB k x y⟩
theorem valid0 {z : C4} (h : smallB z = true) : validB z 0 = true := by
  unfold validB
  rw [h]
  rfl
theorem vec_valid {x y : Int} (x1 : -1000000 ≤ x) (x2 : x ≤ 1000000) (y1 : -1000000 ≤ y) (y2 : y ≤ 1000000) : validB (vec x y) 0 = true :=
  valid0 (small_of (by simp only [vec]; omega))
theorem alng_valid {x y : Int} (x1 : -1000000 ≤ x) (x2 : x ≤ 1000000) (y1 : -1000000 ≤ y) (y2 : y ≤ 1000000) {k : Nat} (hk : k < 8) : validB (alngV k x y) ((0 : Nat) : Int) = true := by
  refine valid0 (small_of ?_)
  rcases lt8 hk with rfl | rfl | rfl | rfl | rfl | rfl | rfl | rfl <;> simp only [alngV, fA, fB] <;> omega
theorem alng_real (k : Nat) (x y : Int) : realB (alngV k x y) = true := by
  simp [realB, eq4, alngV, conjC]
/-- The vector turned back by k eighths. -/
def back (k : Nat) (x y : Int) : C4 := turnC (-(k : Int) % 8).toNat (vec x y)
theorem back_valid {x y : Int} (x1 : -1000000 ≤ x) (x2 : x ≤ 1000000) (y1 : -1000000 ≤ y) (y2 : y ≤ 1000000) (k : Nat) : validB (back k x y) 0 = true := by
  unfold back
  rw [valid_turn]; exact vec_valid x1 x2 y1 y2
theorem back_sum {k : Nat} (hk : k < 8) (x y : Int) : addC (back k x y) (conjC (back k x y)) = alngV k x y := by
  rcases lt8 hk with rfl | rfl | rfl | rfl | rfl | rfl | rfl | rfl
  · have e : back 0 x y = ⟨x, 0, y, 0⟩ := rfl
    rw [e]
    simp only [addC, conjC, alngV, fA, fB, C4.mk.injEq]; omega
  · have e : back 1 x y = ⟨0, y, 0, -x⟩ := by
      show turnC 7 (vec x y) = _
      simp [turnC, rotC, vec]
    rw [e]
    simp only [addC, conjC, alngV, fA, fB, C4.mk.injEq]; omega
  · have e : back 2 x y = ⟨y, 0, -x, 0⟩ := by
      show turnC 6 (vec x y) = _
      simp [turnC, rotC, vec]
    rw [e]
    simp only [addC, conjC, alngV, fA, fB, C4.mk.injEq]; omega
  · have e : back 3 x y = ⟨0, -x, 0, -y⟩ := by
      show turnC 5 (vec x y) = _
      simp [turnC, rotC, vec]
    rw [e]
    simp only [addC, conjC, alngV, fA, fB, C4.mk.injEq]; omega
  · have e : back 4 x y = ⟨-x, 0, -y, 0⟩ := by
      show turnC 4 (vec x y) = _
      simp [turnC, rotC, vec]
    rw [e]
    simp only [addC, conjC, alngV, fA, fB, C4.mk.injEq]; omega
  · have e : back 5 x y = ⟨0, -y, 0, x⟩ := by
      show turnC 3 (vec x y) = _
      simp [turnC, rotC, vec]
    rw [e]
    simp only [addC, conjC, alngV, fA, fB, C4.mk.injEq]; omega
  · have e : back 6 x y = ⟨-y, 0, x, 0⟩ := by
      show turnC 2 (vec x y) = _
      simp [turnC, rotC, vec]
    rw [e]
    simp only [addC, conjC, alngV, fA, fB, C4.mk.injEq]; omega
  · have e : back 7 x y = ⟨0, x, 0, y⟩ := by
      show turnC 1 (vec x y) = _
      simp [turnC, rotC, vec]
    rw [e]
    simp only [addC, conjC, alngV, fA, fB, C4.mk.injEq]; omega
theorem along_add {x y : Int} (x1 : -1000000 ≤ x) (x2 : x ≤ 1000000) (y1 : -1000000 ≤ y) (y2 : y ≤ 1000000) {k : Nat} (hk : k < 8) : addN (back k x y) 0 (conjC (back k x y)) 0 = ⟨alngV k x y, 0, 0⟩ := by
  have hv := back_valid x1 x2 y1 y2 k
  have hc : validB (conjC (back k x y)) 0 = true := by rw [valid_conj]; exact hv
  have hs : addK (back k x y) 0 (conjC (back k x y)) 0 = alngV k x y := by
    have := addK_nat (back k x y) (conjC (back k x y)) 0 0
    rw [show ((0 : Nat) : Int) = 0 from rfl] at this
    rw [this]
    exact back_sum hk x y
  unfold addN
  rw [if_pos ⟨hv, hc⟩, hs]
  exact made_valid (alng_valid x1 x2 y1 y2 hk)
theorem along_cmp {x y : Int} (x1 : -1000000 ≤ x) (x2 : x ≤ 1000000) (y1 : -1000000 ≤ y) (y2 : y ≤ 1000000) {k j : Nat} (hk : k < 8) (hj : j < 8) :
    cmpE (alngV k x y) 0 (alngV j x y) 0 = 0 ∧ (0 < cmpV (alngV k x y) 0 (alngV j x y) 0 ↔ Over x y k j) := by
  obtain ⟨h1, h2⟩ := cmpE_good (alng_valid x1 x2 y1 y2 hk) (alng_valid x1 x2 y1 y2 hj) (alng_real k x y) (alng_real j x y)
  refine ⟨h1, ?_⟩
  have e : addK (alngV k x y) ((0 : Nat) : Int) (negC (alngV j x y)) ((0 : Nat) : Int) = addC (alngV k x y) (negC (alngV j x y)) := addK_nat _ _ 0 0
  rw [show (0 : Int) = ((0 : Nat) : Int) from rfl, h2, e]
  show 0 < sgn (fA k x y + -fA j x y) (fB k x y + -fB j x y) ↔ _
  unfold Over
  rw [Int.sub_eq_add_neg, Int.sub_eq_add_neg, ← sgn_eq_one]
  have := sgn_le (fA k x y + -fA j x y) (fB k x y + -fB j x y)
  omega
end Go.Proofs.Ytecnidnaokbaiaa
