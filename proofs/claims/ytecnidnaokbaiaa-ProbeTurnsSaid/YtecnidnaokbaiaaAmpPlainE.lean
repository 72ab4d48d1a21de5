/- Layer 1, plainly: powers of the root of 2, sums. No condition. -/
import Derived.Test.YtecnidnaokbaiaaAmpPlainD
namespace Amp
def rpow : Nat → C4 → C4
  | 0, x => x
  | n + 1, x => rpow n (root x)
def dbl (x : C4) : C4 := ⟨x.a * 2, x.b * 2, x.c * 2, x.d * 2⟩
theorem C4.ext' {x y : C4} (ha : x.a = y.a) (hb : x.b = y.b) (hc : x.c = y.c) (hd : x.d = y.d) : x = y := by
  cases x; cases y; simp_all
theorem root_root (x : C4) : root (root x) = dbl x := by
  refine C4.ext' ?_ ?_ ?_ ?_ <;> simp only [root, dbl] <;> omega
theorem rpow_dbl (n : Nat) (x : C4) : rpow n (dbl x) = rpow (n + 2) x := by rw [← root_root]; rfl
theorem rpow_succ (n : Nat) : ∀ (x : C4), rpow (n + 1) x = root (rpow n x) := by
  induction n with
  | zero => intro x; rfl
  | succ n ih => intro x; exact ih (root x)
def Bd (M : Int) (x : C4) : Prop := (-M ≤ x.a ∧ x.a ≤ M) ∧ (-M ≤ x.b ∧ x.b ≤ M) ∧ (-M ≤ x.c ∧ x.c ≤ M) ∧ (-M ≤ x.d ∧ x.d ≤ M)
theorem bd_small {x : C4} (h : smallB x = true) : Bd 1000000000 x := smallB_iff.1 h
theorem bd_dbl {M : Int} {x : C4} (h : Bd M x) : Bd (2 * M) (dbl x) := by
  obtain ⟨⟨_, _⟩, ⟨_, _⟩, ⟨_, _⟩, ⟨_, _⟩⟩ := h
  refine ⟨⟨?_, ?_⟩, ⟨?_, ?_⟩, ⟨?_, ?_⟩, ⟨?_, ?_⟩⟩ <;> simp only [dbl] <;> omega
theorem bd_root {M : Int} {x : C4} (h : Bd M x) : Bd (2 * M) (root x) := by
  obtain ⟨⟨_, _⟩, ⟨_, _⟩, ⟨_, _⟩, ⟨_, _⟩⟩ := h
  refine ⟨⟨?_, ?_⟩, ⟨?_, ?_⟩, ⟨?_, ?_⟩, ⟨?_, ?_⟩⟩ <;> simp only [root] <;> omega
theorem bd_mono {M N : Int} {x : C4} (h : Bd M x) (hn : M ≤ N) : Bd N x := by
  obtain ⟨⟨_, _⟩, ⟨_, _⟩, ⟨_, _⟩, ⟨_, _⟩⟩ := h
  refine ⟨⟨?_, ?_⟩, ⟨?_, ?_⟩, ⟨?_, ?_⟩, ⟨?_, ?_⟩⟩ <;> omega
theorem bd_even : ∀ (j : Nat) {M : Int} {x : C4}, Bd M x → Bd (2 ^ j * M) (rpow (2 * j) x)
  | 0, M, x, h => by simpa [rpow] using h
  | j + 1, M, x, h => by
    have := bd_even j (bd_dbl h)
    rw [rpow_dbl] at this
    rw [show 2 * (j + 1) = 2 * j + 2 by omega, show (2 : Int) ^ (j + 1) * M = 2 ^ j * (2 * M) by rw [Int.pow_succ]; rw [Int.mul_assoc]]
    exact this
theorem pow_le20 {j : Nat} (h : j ≤ 20) : (2 : Int) ^ j ≤ 1048576 := by
  have h1 : (2 : Nat) ^ j ≤ 2 ^ 20 := Nat.pow_le_pow_right (by decide) h
  have h2 : ((2 ^ j : Nat) : Int) ≤ ((2 ^ 20 : Nat) : Int) := Int.ofNat_le.2 h1
  simpa using h2
theorem bd_rpow {n : Nat} (hn : n ≤ 40) {x : C4} (h : smallB x = true) : Bd 1048576000000000 (rpow n x) := by
  have hb := bd_small h
  rcases Nat.mod_two_eq_zero_or_one n with h0 | h1
  · obtain ⟨j, rfl⟩ : ∃ j, n = 2 * j := ⟨n / 2, by omega⟩
    have h2 := pow_le20 (j := j) (by omega)
    exact bd_mono (bd_even j hb) (by omega)
  · obtain ⟨j, rfl⟩ : ∃ j, n = 2 * j + 1 := ⟨n / 2, by omega⟩
    have h2 := pow_le20 (j := j + 1) (by omega)
    rw [Int.pow_succ] at h2
    exact bd_mono (bd_even j (bd_root hb)) (by omega)
theorem in4_bd {x : C4} (h : Bd 1048576000000000 x) : In4 x := by
  obtain ⟨⟨_, _⟩, ⟨_, _⟩, ⟨_, _⟩, ⟨_, _⟩⟩ := h
  refine ⟨⟨?_, ?_⟩, ⟨?_, ?_⟩, ⟨?_, ?_⟩, ⟨?_, ?_⟩⟩ <;> omega
/-- The elements of a sum over the greater exponent. -/
def addK (x : C4) (k : Int) (y : C4) (j : Int) : C4 :=
  ⟨(rpow (max k j - k).toNat x).a + (rpow (max k j - j).toNat y).a, (rpow (max k j - k).toNat x).b + (rpow (max k j - j).toNat y).b, (rpow (max k j - k).toNat x).c + (rpow (max k j - j).toNat y).c, (rpow (max k j - k).toNat x).d + (rpow (max k j - j).toNat y).d⟩
def addN (x : C4) (k : Int) (y : C4) (j : Int) : Res := if validB x k = true ∧ validB y j = true then made (addK x k y j) (max k j) else fail 10
def subN (x : C4) (k : Int) (y : C4) (j : Int) : Res := if validB x k = true ∧ validB y j = true then made (addK x k (negC y) j) (max k j) else fail 10
theorem rpow_neg : ∀ (n : Nat) (x : C4), rpow n (negC x) = negC (rpow n x)
  | 0, x => rfl
  | n + 1, x => by
    show rpow n (root (negC x)) = negC (rpow n (root x))
    rw [← rpow_neg n (root x)]
    congr 1
    refine C4.ext' ?_ ?_ ?_ ?_ <;> simp only [root, negC] <;> omega
theorem in4_addK {x y : C4} {k j : Int} (hx : smallB x = true) (hy : smallB y = true) (hk : 0 ≤ k ∧ k ≤ 40) (hj : 0 ≤ j ∧ j ≤ 40) : In4 (addK x k y j) := by
  obtain ⟨⟨_, _⟩, ⟨_, _⟩, ⟨_, _⟩, ⟨_, _⟩⟩ := bd_rpow (n := (max k j - k).toNat) (by omega) hx
  obtain ⟨⟨_, _⟩, ⟨_, _⟩, ⟨_, _⟩, ⟨_, _⟩⟩ := bd_rpow (n := (max k j - j).toNat) (by omega) hy
  refine ⟨⟨?_, ?_⟩, ⟨?_, ?_⟩, ⟨?_, ?_⟩, ⟨?_, ?_⟩⟩ <;> simp only [addK] <;> omega
theorem addK_lt {x y : C4} {k j : Int} (h : k < j) : addK x k y j = ⟨(rpow (j - k).toNat x).a + y.a, (rpow (j - k).toNat x).b + y.b, (rpow (j - k).toNat x).c + y.c, (rpow (j - k).toNat x).d + y.d⟩ := by
  have h1 : max k j = j := by omega
  unfold addK
  rw [h1, show (j - j).toNat = 0 by omega]
  rfl
theorem addK_ge {x y : C4} {k j : Int} (h : ¬ k < j) : addK x k y j = ⟨x.a + (rpow (k - j).toNat y).a, x.b + (rpow (k - j).toNat y).b, x.c + (rpow (k - j).toNat y).c, x.d + (rpow (k - j).toNat y).d⟩ := by
  have h1 : max k j = k := by omega
  unfold addK
  rw [h1, show (k - k).toNat = 0 by omega]
  rfl
end Amp
