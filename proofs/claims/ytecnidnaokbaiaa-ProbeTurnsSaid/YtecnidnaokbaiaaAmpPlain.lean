/- Layer 1, plainly: sums of eighths of a turn as four integers, their forms, sums and products. No condition. -/
namespace Amp

structure C4 where
  a : Int
  b : Int
  c : Int
  d : Int
  deriving DecidableEq

structure Num where
  x : C4
  k : Int
  deriving DecidableEq

def okC (x : Int) : Bool := decide (-1000000000 ≤ x ∧ x ≤ 1000000000)
def smallB (x : C4) : Bool := okC x.a && okC x.b && okC x.c && okC x.d
def evenB (x : C4) : Bool := decide ((x.a + x.c) % 2 = 0 ∧ (x.b + x.d) % 2 = 0)
def root (x : C4) : C4 := ⟨x.b - x.d, x.a + x.c, x.b + x.d, x.c - x.a⟩
def half (x : C4) : C4 := ⟨x.a.tdiv 2, x.b.tdiv 2, x.c.tdiv 2, x.d.tdiv 2⟩
def In4 (x : C4) : Prop := (-4611686018427387903 ≤ x.a ∧ x.a ≤ 4611686018427387903) ∧ (-4611686018427387903 ≤ x.b ∧ x.b ≤ 4611686018427387903) ∧ (-4611686018427387903 ≤ x.c ∧ x.c ≤ 4611686018427387903) ∧ (-4611686018427387903 ≤ x.d ∧ x.d ≤ 4611686018427387903)

/-- The form of a number with the exponent k. -/
def red : Nat → C4 → C4 × Nat
  | 0, x => (x, 0)
  | k + 1, x => if evenB x = true then red k (half (root x)) else (x, k + 1)

theorem tmod2 (x : Int) : x.tmod 2 = 0 ↔ x % 2 = 0 := by
  rw [← Int.dvd_iff_tmod_eq_zero, Int.dvd_iff_emod_eq_zero]
theorem tdiv2 (x : Int) : x - 1 ≤ 2 * x.tdiv 2 ∧ 2 * x.tdiv 2 ≤ x + 1 := by
  have h := Int.mul_tdiv_add_tmod x 2
  have h1 := Int.tmod_lt_of_pos x (show (0:Int) < 2 by decide)
  have h2 := Int.lt_tmod_of_pos x (show (0:Int) < 2 by decide)
  omega
theorem tdiv2_even (x : Int) (h : x % 2 = 0) : 2 * x.tdiv 2 = x := by
  have h' := Int.mul_tdiv_add_tmod x 2
  rw [(tmod2 x).2 h] at h'
  omega
theorem in4_half_root {x : C4} (h : In4 x) : In4 (half (root x)) := by
  obtain ⟨⟨_, _⟩, ⟨_, _⟩, ⟨_, _⟩, ⟨_, _⟩⟩ := h
  have h1 := tdiv2 (x.b - x.d)
  have h2 := tdiv2 (x.a + x.c)
  have h3 := tdiv2 (x.b + x.d)
  have h4 := tdiv2 (x.c - x.a)
  refine ⟨⟨?_, ?_⟩, ⟨?_, ?_⟩, ⟨?_, ?_⟩, ⟨?_, ?_⟩⟩ <;> simp only [half, root] <;> omega
theorem in4_red : ∀ (k : Nat) (x : C4), In4 x → In4 (red k x).1
  | 0, x, h => h
  | k + 1, x, h => by
    unfold red
    split
    · exact in4_red k _ (in4_half_root h)
    · exact h
theorem red_le : ∀ (k : Nat) (x : C4), (red k x).2 ≤ k
  | 0, x => Nat.le_refl _
  | k + 1, x => by
    unfold red
    split
    · exact Nat.le_succ_of_le (red_le k _)
    · exact Nat.le_refl _

def validB (x : C4) (k : Int) : Bool := smallB x && decide (0 ≤ k ∧ k ≤ 40) && (decide (k = 0) || !evenB x)

/-- A number and an error. -/
structure Res where
  x : C4
  k : Int
  e : Int
  deriving DecidableEq

def zero : C4 := ⟨0, 0, 0, 0⟩
def fail (e : Int) : Res := ⟨zero, 0, e⟩
/-- The form of a number that is divided by r^k, if it is in range. -/
def made (x : C4) (k : Int) : Res := if validB (red k.toNat x).1 (red k.toNat x).2 = true then ⟨(red k.toNat x).1, (red k.toNat x).2, 0⟩ else fail 4

theorem okC_iff {x : Int} : okC x = true ↔ -1000000000 ≤ x ∧ x ≤ 1000000000 := by simp [okC]
theorem smallB_iff {x : C4} : smallB x = true ↔ ((-1000000000 ≤ x.a ∧ x.a ≤ 1000000000) ∧ (-1000000000 ≤ x.b ∧ x.b ≤ 1000000000) ∧ (-1000000000 ≤ x.c ∧ x.c ≤ 1000000000) ∧ (-1000000000 ≤ x.d ∧ x.d ≤ 1000000000)) := by
  simp only [smallB, Bool.and_eq_true, okC_iff]
  constructor
  · rintro ⟨⟨⟨h1, h2⟩, h3⟩, h4⟩; exact ⟨h1, h2, h3, h4⟩
  · rintro ⟨h1, h2, h3, h4⟩; exact ⟨⟨⟨h1, h2⟩, h3⟩, h4⟩
theorem in4_small {x : C4} (h : smallB x = true) : In4 x := by
  obtain ⟨⟨_, _⟩, ⟨_, _⟩, ⟨_, _⟩, ⟨_, _⟩⟩ := smallB_iff.1 h
  refine ⟨⟨?_, ?_⟩, ⟨?_, ?_⟩, ⟨?_, ?_⟩, ⟨?_, ?_⟩⟩ <;> omega
theorem validB_small {x : C4} {k : Int} (h : validB x k = true) : smallB x = true := by
  simp only [validB, Bool.and_eq_true] at h
  exact h.1.1
theorem validB_k {x : C4} {k : Int} (h : validB x k = true) : 0 ≤ k ∧ k ≤ 40 := by
  simp only [validB, Bool.and_eq_true, decide_eq_true_eq] at h
  exact h.1.2

def okRes (x : C4) (k : Int) : Bool := decide (k ≤ 40) && smallB x
theorem red_odd : ∀ (k : Nat) (x : C4), (red k x).2 = 0 ∨ evenB (red k x).1 = false
  | 0, x => .inl rfl
  | k + 1, x => by
    unfold red
    split
    · exact red_odd k _
    · rename_i h; exact .inr (by simpa using h)
theorem validB_red (k : Nat) (x : C4) : validB (red k x).1 (red k x).2 = okRes (red k x).1 (red k x).2 := by
  unfold validB okRes
  rcases red_odd k x with h | h
  · simp [h]
  · rw [h]; simp [Bool.and_comm]
/-- A valid number is its own form. -/
theorem red_valid {k : Nat} {x : C4} (h : k = 0 ∨ evenB x = false) : red k x = (x, k) := by
  cases k with
  | zero => rfl
  | succ k =>
    rcases h with h | h
    · cases h
    · unfold red; rw [h]; rfl
theorem red_same {k : Nat} {x : C4} (h : red k x = (x, k)) : k = 0 ∨ evenB x = false := by
  have := red_odd k x
  rw [h] at this
  exact this

def in60 (x : C4) : Prop := (-1152921504606846976 ≤ x.a ∧ x.a ≤ 1152921504606846976) ∧ (-1152921504606846976 ≤ x.b ∧ x.b ≤ 1152921504606846976) ∧ (-1152921504606846976 ≤ x.c ∧ x.c ≤ 1152921504606846976) ∧ (-1152921504606846976 ≤ x.d ∧ x.d ≤ 1152921504606846976)
instance (x : C4) : Decidable (in60 x) := by unfold in60; infer_instance
def makeN (x : C4) (k : Int) : Res := if in60 x ∧ 0 ≤ k ∧ k ≤ 1000 then made x k else fail 2
theorem in4_60 {x : C4} (h : in60 x) : In4 x := by
  obtain ⟨⟨_, _⟩, ⟨_, _⟩, ⟨_, _⟩, ⟨_, _⟩⟩ := h
  refine ⟨⟨?_, ?_⟩, ⟨?_, ?_⟩, ⟨?_, ?_⟩, ⟨?_, ?_⟩⟩ <;> omega
end Amp
