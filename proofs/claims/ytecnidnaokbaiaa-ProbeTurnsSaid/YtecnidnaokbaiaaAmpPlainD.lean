/- Layer 1, plainly: numbers that are negated, flipped, turned, halved. No condition. -/
import Derived.Test.YtecnidnaokbaiaaAmpPlainC
namespace Amp
def negC (x : C4) : C4 := ⟨-x.a, -x.b, -x.c, -x.d⟩
def flipC (x : C4) : C4 := ⟨x.a, -x.b, x.c, -x.d⟩
def flipK (x : C4) (k : Int) : C4 := if k % 2 = 1 then negC (flipC x) else flipC x
def rotC (x : C4) : C4 := ⟨-x.d, x.a, x.b, x.c⟩
def turnC : Nat → C4 → C4
  | 0, x => x
  | n + 1, x => turnC n (rotC x)
/-- What becomes of a valid number. -/
def changeR (v : Bool) (y : C4) (k : Int) : Res := if v = true then ⟨y, k, 0⟩ else fail 10
def halveN (x : C4) (k n : Int) : Res := if validB x k = true then (if 0 ≤ n ∧ n ≤ 100 then made x (k + n) else fail 2) else fail 10

theorem small_of {x : C4} (h : (-1000000000 ≤ x.a ∧ x.a ≤ 1000000000) ∧ (-1000000000 ≤ x.b ∧ x.b ≤ 1000000000) ∧ (-1000000000 ≤ x.c ∧ x.c ≤ 1000000000) ∧ (-1000000000 ≤ x.d ∧ x.d ≤ 1000000000)) : smallB x = true := smallB_iff.2 h
theorem small_neg {x : C4} (h : smallB x = true) : smallB (negC x) = true := by
  obtain ⟨⟨_, _⟩, ⟨_, _⟩, ⟨_, _⟩, ⟨_, _⟩⟩ := smallB_iff.1 h
  refine small_of ⟨⟨?_, ?_⟩, ⟨?_, ?_⟩, ⟨?_, ?_⟩, ⟨?_, ?_⟩⟩ <;> simp only [negC] <;> omega
theorem small_flip {x : C4} (h : smallB x = true) : smallB (flipC x) = true := by
  obtain ⟨⟨_, _⟩, ⟨_, _⟩, ⟨_, _⟩, ⟨_, _⟩⟩ := smallB_iff.1 h
  refine small_of ⟨⟨?_, ?_⟩, ⟨?_, ?_⟩, ⟨?_, ?_⟩, ⟨?_, ?_⟩⟩ <;> simp only [flipC] <;> omega
theorem small_rot {x : C4} (h : smallB x = true) : smallB (rotC x) = true := by
  obtain ⟨⟨_, _⟩, ⟨_, _⟩, ⟨_, _⟩, ⟨_, _⟩⟩ := smallB_iff.1 h
  refine small_of ⟨⟨?_, ?_⟩, ⟨?_, ?_⟩, ⟨?_, ?_⟩, ⟨?_, ?_⟩⟩ <;> simp only [rotC] <;> omega
theorem small_turn : ∀ (n : Nat) {x : C4}, smallB x = true → smallB (turnC n x) = true
  | 0, _, h => h
  | n + 1, _, h => small_turn n (small_rot h)
theorem even_flip (x : C4) : evenB (flipC x) = evenB x := by
  simp only [evenB, flipC]
  congr 1
  simp only [eq_iff_iff]
  omega
theorem small_iff_flip (x : C4) : smallB (flipC x) = smallB x := by
  rw [Bool.eq_iff_iff]
  constructor
  · intro h
    have := small_flip h
    simpa [flipC] using this
  · exact small_flip
theorem valid_flip (x : C4) (k : Int) : validB (flipC x) k = validB x k := by
  simp only [validB, small_iff_flip, even_flip]
theorem turn4 (x : C4) : turnC 4 x = negC x := rfl
theorem turnmod (n : Int) : (n.tmod 8 + 8) % 8 = n % 8 := by
  have h := Int.mul_tdiv_add_tmod n 8
  omega
theorem tmod8 (n : Int) : -8 < n.tmod 8 ∧ n.tmod 8 < 8 :=
  ⟨Int.lt_tmod_of_pos n (by decide), Int.tmod_lt_of_pos n (by decide)⟩
theorem changeR_e {v : Bool} {y : C4} {k : Int} (h : v = true) : changeR v y k = ⟨y, k, 0⟩ := if_pos h
theorem changeR_f {v : Bool} {y : C4} {k : Int} (h : v = false) : changeR v y k = fail 10 := if_neg (by rw [h]; exact Bool.false_ne_true)
end Amp
