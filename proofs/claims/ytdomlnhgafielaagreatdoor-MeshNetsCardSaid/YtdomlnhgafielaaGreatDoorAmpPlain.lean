/- Layer 1, plainly: sums of eighths of a turn as four integers, their forms, sums and products. No condition. -/

namespace Amp

structure C4 where
  a : Int
  b : Int
  c : Int
  d : Int
  deriving DecidableEq

structure Num where
  x : C4
  k : Int
  deriving DecidableEq

def okC (x : Int) : Bool := decide (-1000000000 ≤ x ∧ x ≤ 1000000000)
def smallB (x : C4) : Bool := okC x.a && okC x.b && okC x.c && okC x.d
def evenB (x : C4) : Bool := decide ((x.a + x.c) % 2 = 0 ∧ (x.b + x.d) % 2 = 0)
def root (x : C4) : C4 := ⟨x.b - x.d, x.a + x.c, x.b + x.d, x.c - x.a⟩
def half (x : C4) : C4 := ⟨x.a.tdiv 2, x.b.tdiv 2, x.c.tdiv 2, x.d.tdiv 2⟩
def In4 (x : C4) : Prop := (-4611686018427387903 ≤ x.a ∧ x.a ≤ 4611686018427387903) ∧ (-4611686018427387903 ≤ x.b ∧ x.b ≤ 4611686018427387903) ∧ (-4611686018427387903 ≤ x.c ∧ x.c ≤ 4611686018427387903) ∧ (-4611686018427387903 ≤ x.d ∧ x.d ≤ 4611686018427387903)

/-- The form of a number with the exponent k. -/
def red : Nat → C4 → C4 × Nat
  | 0, x => (x, 0)
  | k + 1, x => if evenB x = true then red k (half (root x)) else (x, k + 1)

theorem tmod2 (x : Int) : x.tmod 2 = 0 ↔ x % 2 = 0 := by
  rw [← Int.dvd_iff_tmod_eq_zero, Int.dvd_iff_emod_eq_zero]
theorem tdiv2 (x : Int) : x - 1 ≤ 2 * x.tdiv 2 ∧ 2 * x.tdiv 2 ≤ x + 1 := by
  have h := Int.mul_tdiv_add_tmod x 2
  have h1 := Int.tmod_lt_of_pos x (show (0:Int) < 2 by decide)
  have h2 := Int.lt_tmod_of_pos x (show (0:Int) < 2 by decide)
  omega
theorem tdiv2_even (x : Int) (h : x % 2 = 0) : 2 * x.tdiv 2 = x := by
  have h' := Int.mul_tdiv_add_tmod x 2
  rw [(tmod2 x).2 h] at h'
  omega
theorem in4_half_root {x : C4} (h : In4 x) : In4 (half (root x)) := by
  obtain ⟨⟨_, _⟩, ⟨_, _⟩, ⟨_, _⟩, ⟨_, _⟩⟩ := h
  have h1 := tdiv2 (x.b - x.d)
  have h2 := tdiv2 (x.a + x.c)
  have h3 := tdiv2 (x.b + x.d)
  have h4 := tdiv2 (x.c - x.a)
  refine ⟨⟨?_, ?_⟩, ⟨?_, ?_⟩, ⟨?_, ?_⟩, ⟨?_, ?_⟩⟩ <;> simp only [half, root] <;> omega
theorem in4_red : ∀ (k : Nat) (x : C4), In4 x → In4 (red k x).1
  | 0, x, h => h
  | k + 1, x, h => by
    unfold red
    split
    · exact in4_red k _ (in4_half_root h)
    · exact h
theorem red_le : ∀ (k : Nat) (x : C4), (red k x).2 ≤ k
  | 0, x => Nat.le_refl _
  | k + 1, x => by
    unfold red
    split
    · exact Nat.le_succ_of_le (red_le k _)
    · exact Nat.le_refl _

def validB (x : C4) (k : Int) : Bool := smallB x && decide (0 ≤ k ∧ k ≤ 40) && (decide (k = 0) || !evenB x)

/-- A number and an error. -/
structure Res where
  x : C4
  k : Int
  e : Int
  deriving DecidableEq

def zero : C4 := ⟨0, 0, 0, 0⟩
def fail (e : Int) : Res := ⟨zero, 0, e⟩
/-- The form of a number that is divided by r^k, if it is in range. -/
def made (x : C4) (k : Int) : Res := if validB (red k.toNat x).1 (red k.toNat x).2 = true then ⟨(red k.toNat x).1, (red k.toNat x).2, 0⟩ else fail 4

theorem okC_iff {x : Int} : okC x = true ↔ -1000000000 ≤ x ∧ x ≤ 1000000000 := by simp [okC]
theorem smallB_iff {x : C4} : smallB x = true ↔ ((-1000000000 ≤ x.a ∧ x.a ≤ 1000000000) ∧ (-1000000000 ≤ x.b ∧ x.b ≤ 1000000000) ∧ (-1000000000 ≤ x.c ∧ x.c ≤ 1000000000) ∧ (-1000000000 ≤ x.d ∧ x.d ≤ 1000000000)) := by
  simp only [smallB, Bool.and_eq_true, okC_iff]
  constructor
  · rintro ⟨⟨⟨h1, h2⟩, h3⟩, h4⟩; exact ⟨h1, h2, h3, h4⟩
  · rintro ⟨h1, h2, h3, h4⟩; exact ⟨⟨⟨h1, h2⟩, h3⟩, h4⟩
theorem in4_small {x : C4} (h : smallB x = true) : In4 x := by
  obtain ⟨⟨_, _⟩, ⟨_, _⟩, ⟨_, _⟩, ⟨_, _⟩⟩ := smallB_iff.1 h
  refine ⟨⟨?_, ?_⟩, ⟨?_, ?_⟩, ⟨?_, ?_⟩, ⟨?_, ?_⟩⟩ <;> omega
theorem validB_small {x : C4} {k : Int} (h : validB x k = true) : smallB x = true := by
  simp only [validB, Bool.and_eq_true] at h
  exact h.1.1
theorem validB_k {x : C4} {k : Int} (h : validB x k = true) : 0 ≤ k ∧ k ≤ 40 := by
  simp only [validB, Bool.and_eq_true, decide_eq_true_eq] at h
  exact h.1.2

def okRes (x : C4) (k : Int) : Bool := decide (k ≤ 40) && smallB x
theorem red_odd : ∀ (k : Nat) (x : C4), (red k x).2 = 0 ∨ evenB (red k x).1 = false
  | 0, x => .inl rfl
  | k + 1, x => by
    unfold red
    split
    · exact red_odd k _
    · rename_i h; exact .inr (by simpa using h)
theorem validB_red (k : Nat) (x : C4) : validB (red k x).1 (red k x).2 = okRes (red k x).1 (red k x).2 := by
  unfold validB okRes
  rcases red_odd k x with h | h
  · simp [h]
  · rw [h]; simp [Bool.and_comm]
/-- A valid number is its own form. -/
theorem red_valid {k : Nat} {x : C4} (h : k = 0 ∨ evenB x = false) : red k x = (x, k) := by
  cases k with
  | zero => rfl
  | succ k =>
    rcases h with h | h
    · cases h
    · unfold red; rw [h]; rfl
theorem red_same {k : Nat} {x : C4} (h : red k x = (x, k)) : k = 0 ∨ evenB x = false := by
  have := red_odd k x
  rw [h] at this
  exact this

def in60 (x : C4) : Prop := (-1152921504606846976 ≤ x.a ∧ x.a ≤ 1152921504606846976) ∧ (-1152921504606846976 ≤ x.b ∧ x.b ≤ 1152921504606846976) ∧ (-1152921504606846976 ≤ x.c ∧ x.c ≤ 1152921504606846976) ∧ (-1152921504606846976 ≤ x.d ∧ x.d ≤ 1152921504606846976)
instance (x : C4) : Decidable (in60 x) := by unfold in60; infer_instance
def makeN (x : C4) (k : Int) : Res := if in60 x ∧ 0 ≤ k ∧ k ≤ 1000 then made x k else fail 2
theorem in4_60 {x : C4} (h : in60 x) : In4 x := by
  obtain ⟨⟨_, _⟩, ⟨_, _⟩, ⟨_, _⟩, ⟨_, _⟩⟩ := h
  refine ⟨⟨?_, ?_⟩, ⟨?_, ?_⟩, ⟨?_, ?_⟩, ⟨?_, ?_⟩⟩ <;> omega
end Amp

/- Layer 1, plainly: products, conjugates. No condition. -/

namespace Amp
def mulC (x y : C4) : C4 := ⟨x.a * y.a - x.b * y.d - x.c * y.c - x.d * y.b, x.a * y.b + x.b * y.a - x.c * y.d - x.d * y.c, x.a * y.c + x.b * y.b + x.c * y.a - x.d * y.d, x.a * y.d + x.b * y.c + x.c * y.b + x.d * y.a⟩
def conjC (x : C4) : C4 := ⟨x.a, -x.d, -x.c, -x.b⟩

theorem prod_bd {x y : Int} (h1 : -1000000000 ≤ x ∧ x ≤ 1000000000) (h2 : -1000000000 ≤ y ∧ y ≤ 1000000000) : -1000000000000000000 ≤ x * y ∧ x * y ≤ 1000000000000000000 := by
  have h3 : (x * y).natAbs ≤ 1000000000 * 1000000000 := by
    rw [Int.natAbs_mul]
    exact Nat.mul_le_mul (by omega) (by omega)
  omega
/-- Sixteen products of small elements are small. -/
structure Prods (x y : C4) : Prop where
  aa : -1000000000000000000 ≤ x.a * y.a ∧ x.a * y.a ≤ 1000000000000000000
  ab : -1000000000000000000 ≤ x.a * y.b ∧ x.a * y.b ≤ 1000000000000000000
  ac : -1000000000000000000 ≤ x.a * y.c ∧ x.a * y.c ≤ 1000000000000000000
  ad : -1000000000000000000 ≤ x.a * y.d ∧ x.a * y.d ≤ 1000000000000000000
  ba : -1000000000000000000 ≤ x.b * y.a ∧ x.b * y.a ≤ 1000000000000000000
  bb : -1000000000000000000 ≤ x.b * y.b ∧ x.b * y.b ≤ 1000000000000000000
  bc : -1000000000000000000 ≤ x.b * y.c ∧ x.b * y.c ≤ 1000000000000000000
  bd : -1000000000000000000 ≤ x.b * y.d ∧ x.b * y.d ≤ 1000000000000000000
  ca : -1000000000000000000 ≤ x.c * y.a ∧ x.c * y.a ≤ 1000000000000000000
  cb : -1000000000000000000 ≤ x.c * y.b ∧ x.c * y.b ≤ 1000000000000000000
  cc : -1000000000000000000 ≤ x.c * y.c ∧ x.c * y.c ≤ 1000000000000000000
  cd : -1000000000000000000 ≤ x.c * y.d ∧ x.c * y.d ≤ 1000000000000000000
  da : -1000000000000000000 ≤ x.d * y.a ∧ x.d * y.a ≤ 1000000000000000000
  db : -1000000000000000000 ≤ x.d * y.b ∧ x.d * y.b ≤ 1000000000000000000
  dc : -1000000000000000000 ≤ x.d * y.c ∧ x.d * y.c ≤ 1000000000000000000
  dd : -1000000000000000000 ≤ x.d * y.d ∧ x.d * y.d ≤ 1000000000000000000
theorem prods {x y : C4} (hx : smallB x = true) (hy : smallB y = true) : Prods x y := by
  obtain ⟨ha, hb, hc, hd⟩ := smallB_iff.1 hx
  obtain ⟨ka, kb, kc, kd⟩ := smallB_iff.1 hy
  exact ⟨prod_bd ha ka, prod_bd ha kb, prod_bd ha kc, prod_bd ha kd, prod_bd hb ka, prod_bd hb kb, prod_bd hb kc, prod_bd hb kd, prod_bd hc ka, prod_bd hc kb, prod_bd hc kc, prod_bd hc kd, prod_bd hd ka, prod_bd hd kb, prod_bd hd kc, prod_bd hd kd⟩
theorem in4_mul {x y : C4} (hx : smallB x = true) (hy : smallB y = true) : In4 (mulC x y) := by
  obtain ⟨⟨_, _⟩, ⟨_, _⟩, ⟨_, _⟩, ⟨_, _⟩, ⟨_, _⟩, ⟨_, _⟩, ⟨_, _⟩, ⟨_, _⟩, ⟨_, _⟩, ⟨_, _⟩, ⟨_, _⟩, ⟨_, _⟩, ⟨_, _⟩, ⟨_, _⟩, ⟨_, _⟩, ⟨_, _⟩⟩ := prods hx hy
  refine ⟨⟨?_, ?_⟩, ⟨?_, ?_⟩, ⟨?_, ?_⟩, ⟨?_, ?_⟩⟩ <;> simp only [mulC] <;> omega
theorem small_conj {x : C4} (hx : smallB x = true) : smallB (conjC x) = true := by
  obtain ⟨⟨_, _⟩, ⟨_, _⟩, ⟨_, _⟩, ⟨_, _⟩⟩ := smallB_iff.1 hx
  refine smallB_iff.2 ⟨⟨?_, ?_⟩, ⟨?_, ?_⟩, ⟨?_, ?_⟩, ⟨?_, ?_⟩⟩ <;> simp only [conjC] <;> omega
end Amp

/- Layer 1, plainly: what the functions return. No condition. -/

namespace Amp
def mulN (x : C4) (k : Int) (y : C4) (j : Int) : Res := if validB x k = true ∧ validB y j = true then made (mulC x y) (k + j) else fail 10
def powerN (x : C4) (k : Int) : Res := if validB x k = true then made (mulC x (conjC x)) (k + k) else fail 10
/-- The error of a function of one number. -/
def errV (x : C4) (k : Int) : Int := if validB x k = true then 0 else 10
end Amp

/- Layer 1, plainly: numbers that are negated, flipped, turned, halved. No condition. -/

namespace Amp
def negC (x : C4) : C4 := ⟨-x.a, -x.b, -x.c, -x.d⟩
def flipC (x : C4) : C4 := ⟨x.a, -x.b, x.c, -x.d⟩
def flipK (x : C4) (k : Int) : C4 := if k % 2 = 1 then negC (flipC x) else flipC x
def rotC (x : C4) : C4 := ⟨-x.d, x.a, x.b, x.c⟩
def turnC : Nat → C4 → C4
  | 0, x => x
  | n + 1, x => turnC n (rotC x)
/-- What becomes of a valid number. -/
def changeR (v : Bool) (y : C4) (k : Int) : Res := if v = true then ⟨y, k, 0⟩ else fail 10
def halveN (x : C4) (k n : Int) : Res := if validB x k = true then (if 0 ≤ n ∧ n ≤ 100 then made x (k + n) else fail 2) else fail 10

theorem small_of {x : C4} (h : (-1000000000 ≤ x.a ∧ x.a ≤ 1000000000) ∧ (-1000000000 ≤ x.b ∧ x.b ≤ 1000000000) ∧ (-1000000000 ≤ x.c ∧ x.c ≤ 1000000000) ∧ (-1000000000 ≤ x.d ∧ x.d ≤ 1000000000)) : smallB x = true := smallB_iff.2 h
theorem small_neg {x : C4} (h : smallB x = true) : smallB (negC x) = true := by
  obtain ⟨⟨_, _⟩, ⟨_, _⟩, ⟨_, _⟩, ⟨_, _⟩⟩ := smallB_iff.1 h
  refine small_of ⟨⟨?_, ?_⟩, ⟨?_, ?_⟩, ⟨?_, ?_⟩, ⟨?_, ?_⟩⟩ <;> simp only [negC] <;> omega
theorem small_flip {x : C4} (h : smallB x = true) : smallB (flipC x) = true := by
  obtain ⟨⟨_, _⟩, ⟨_, _⟩, ⟨_, _⟩, ⟨_, _⟩⟩ := smallB_iff.1 h
  refine small_of ⟨⟨?_, ?_⟩, ⟨?_, ?_⟩, ⟨?_, ?_⟩, ⟨?_, ?_⟩⟩ <;> simp only [flipC] <;> omega
theorem small_rot {x : C4} (h : smallB x = true) : smallB (rotC x) = true := by
  obtain ⟨⟨_, _⟩, ⟨_, _⟩, ⟨_, _⟩, ⟨_, _⟩⟩ := smallB_iff.1 h
  refine small_of ⟨⟨?_, ?_⟩, ⟨?_, ?_⟩, ⟨?_, ?_⟩, ⟨?_, ?_⟩⟩ <;> simp only [rotC] <;> omega
theorem small_turn : ∀ (n : Nat) {x : C4}, smallB x = true → smallB (turnC n x) = true
  | 0, _, h => h
  | n + 1, _, h => small_turn n (small_rot h)
theorem even_flip (x : C4) : evenB (flipC x) = evenB x := by
  simp only [evenB, flipC]
  congr 1
  simp only [eq_iff_iff]
  omega
theorem small_iff_flip (x : C4) : smallB (flipC x) = smallB x := by
  rw [Bool.eq_iff_iff]
  constructor
  · intro h
    have := small_flip h
    simpa [flipC] using this
  · exact small_flip
theorem valid_flip (x : C4) (k : Int) : validB (flipC x) k = validB x k := by
  simp only [validB, small_iff_flip, even_flip]
theorem turn4 (x : C4) : turnC 4 x = negC x := rfl
theorem turnmod (n : Int) : (n.tmod 8 + 8) % 8 = n % 8 := by
  have h := Int.mul_tdiv_add_tmod n 8
  omega
theorem tmod8 (n : Int) : -8 < n.tmod 8 ∧ n.tmod 8 < 8 :=
  ⟨Int.lt_tmod_of_pos n (by decide), Int.tmod_lt_of_pos n (by decide)⟩
theorem changeR_e {v : Bool} {y : C4} {k : Int} (h : v = true) : changeR v y k = ⟨y, k, 0⟩ := if_pos h
theorem changeR_f {v : Bool} {y : C4} {k : Int} (h : v = false) : changeR v y k = fail 10 := if_neg (by rw [h]; exact Bool.false_ne_true)
end Amp

/- Layer 1, plainly: powers of the root of 2, sums. No condition. -/

namespace Amp
def rpow : Nat → C4 → C4
  | 0, x => x
  | n + 1, x => rpow n (root x)
def dbl (x : C4) : C4 := ⟨x.a * 2, x.b * 2, x.c * 2, x.d * 2⟩
theorem C4.ext' {x y : C4} (ha : x.a = y.a) (hb : x.b = y.b) (hc : x.c = y.c) (hd : x.d = y.d) : x = y := by
  cases x; cases y; simp_all
theorem root_root (x : C4) : root (root x) = dbl x := by
  refine C4.ext' ?_ ?_ ?_ ?_ <;> simp only [root, dbl] <;> omega
theorem rpow_dbl (n : Nat) (x : C4) : rpow n (dbl x) = rpow (n + 2) x := by rw [← root_root]; rfl
theorem rpow_succ (n : Nat) : ∀ (x : C4), rpow (n + 1) x = root (rpow n x) := by
  induction n with
  | zero => intro x; rfl
  | succ n ih => intro x; exact ih (root x)
def Bd (M : Int) (x : C4) : Prop := (-M ≤ x.a ∧ x.a ≤ M) ∧ (-M ≤ x.b ∧ x.b ≤ M) ∧ (-M ≤ x.c ∧ x.c ≤ M) ∧ (-M ≤ x.d ∧ x.d ≤ M)
theorem bd_small {x : C4} (h : smallB x = true) : Bd 1000000000 x := smallB_iff.1 h
theorem bd_dbl {M : Int} {x : C4} (h : Bd M x) : Bd (2 * M) (dbl x) := by
  obtain ⟨⟨_, _⟩, ⟨_, _⟩, ⟨_, _⟩, ⟨_, _⟩⟩ := h
  refine ⟨⟨?_, ?_⟩, ⟨?_, ?_⟩, ⟨?_, ?_⟩, ⟨?_, ?_⟩⟩ <;> simp only [dbl] <;> omega
theorem bd_root {M : Int} {x : C4} (h : Bd M x) : Bd (2 * M) (root x) := by
  obtain ⟨⟨_, _⟩, ⟨_, _⟩, ⟨_, _⟩, ⟨_, _⟩⟩ := h
  refine ⟨⟨?_, ?_⟩, ⟨?_, ?_⟩, ⟨?_, ?_⟩, ⟨?_, ?_⟩⟩ <;> simp only [root] <;> omega
theorem bd_mono {M N : Int} {x : C4} (h : Bd M x) (hn : M ≤ N) : Bd N x := by
  obtain ⟨⟨_, _⟩, ⟨_, _⟩, ⟨_, _⟩, ⟨_, _⟩⟩ := h
  refine ⟨⟨?_, ?_⟩, ⟨?_, ?_⟩, ⟨?_, ?_⟩, ⟨?_, ?_⟩⟩ <;> omega
theorem bd_even : ∀ (j : Nat) {M : Int} {x : C4}, Bd M x → Bd (2 ^ j * M) (rpow (2 * j) x)
  | 0, M, x, h => by simpa [rpow] using h
  | j + 1, M, x, h => by
    have := bd_even j (bd_dbl h)
    rw [rpow_dbl] at this
    rw [show 2 * (j + 1) = 2 * j + 2 by omega, show (2 : Int) ^ (j + 1) * M = 2 ^ j * (2 * M) by rw [Int.pow_succ]; rw [Int.mul_assoc]]
    exact this
theorem pow_le20 {j : Nat} (h : j ≤ 20) : (2 : Int) ^ j ≤ 1048576 := by
  have h1 : (2 : Nat) ^ j ≤ 2 ^ 20 := Nat.pow_le_pow_right (by decide) h
  have h2 : ((2 ^ j : Nat) : Int) ≤ ((2 ^ 20 : Nat) : Int) := Int.ofNat_le.2 h1
  simpa using h2
theorem bd_rpow {n : Nat} (hn : n ≤ 40) {x : C4} (h : smallB x = true) : Bd 1048576000000000 (rpow n x) := by
  have hb := bd_small h
  rcases Nat.mod_two_eq_zero_or_one n with h0 | h1
  · obtain ⟨j, rfl⟩ : ∃ j, n = 2 * j := ⟨n / 2, by omega⟩
    have h2 := pow_le20 (j := j) (by omega)
    exact bd_mono (bd_even j hb) (by omega)
  · obtain ⟨j, rfl⟩ : ∃ j, n = 2 * j + 1 := ⟨n / 2, by omega⟩
    have h2 := pow_le20 (j := j + 1) (by omega)
    rw [Int.pow_succ] at h2
    exact bd_mono (bd_even j (bd_root hb)) (by omega)
theorem in4_bd {x : C4} (h : Bd 1048576000000000 x) : In4 x := by
  obtain ⟨⟨_, _⟩, ⟨_, _⟩, ⟨_, _⟩, ⟨_, _⟩⟩ := h
  refine ⟨⟨?_, ?_⟩, ⟨?_, ?_⟩, ⟨?_, ?_⟩, ⟨?_, ?_⟩⟩ <;> omega
/-- The elements of a sum over the greater exponent. -/
def addK (x : C4) (k : Int) (y : C4) (j : Int) : C4 :=
  ⟨(rpow (max k j - k).toNat x).a + (rpow (max k j - j).toNat y).a, (rpow (max k j - k).toNat x).b + (rpow (max k j - j).toNat y).b, (rpow (max k j - k).toNat x).c + (rpow (max k j - j).toNat y).c, (rpow (max k j - k).toNat x).d + (rpow (max k j - j).toNat y).d⟩
def addN (x : C4) (k : Int) (y : C4) (j : Int) : Res := if validB x k = true ∧ validB y j = true then made (addK x k y j) (max k j) else fail 10
def subN (x : C4) (k : Int) (y : C4) (j : Int) : Res := if validB x k = true ∧ validB y j = true then made (addK x k (negC y) j) (max k j) else fail 10
theorem rpow_neg : ∀ (n : Nat) (x : C4), rpow n (negC x) = negC (rpow n x)
  | 0, x => rfl
  | n + 1, x => by
    show rpow n (root (negC x)) = negC (rpow n (root x))
    rw [← rpow_neg n (root x)]
    congr 1
    refine C4.ext' ?_ ?_ ?_ ?_ <;> simp only [root, negC] <;> omega
theorem in4_addK {x y : C4} {k j : Int} (hx : smallB x = true) (hy : smallB y = true) (hk : 0 ≤ k ∧ k ≤ 40) (hj : 0 ≤ j ∧ j ≤ 40) : In4 (addK x k y j) := by
  obtain ⟨⟨_, _⟩, ⟨_, _⟩, ⟨_, _⟩, ⟨_, _⟩⟩ := bd_rpow (n := (max k j - k).toNat) (by omega) hx
  obtain ⟨⟨_, _⟩, ⟨_, _⟩, ⟨_, _⟩, ⟨_, _⟩⟩ := bd_rpow (n := (max k j - j).toNat) (by omega) hy
  refine ⟨⟨?_, ?_⟩, ⟨?_, ?_⟩, ⟨?_, ?_⟩, ⟨?_, ?_⟩⟩ <;> simp only [addK] <;> omega
theorem addK_lt {x y : C4} {k j : Int} (h : k < j) : addK x k y j = ⟨(rpow (j - k).toNat x).a + y.a, (rpow (j - k).toNat x).b + y.b, (rpow (j - k).toNat x).c + y.c, (rpow (j - k).toNat x).d + y.d⟩ := by
  have h1 : max k j = j := by omega
  unfold addK
  rw [h1, show (j - j).toNat = 0 by omega]
  rfl
theorem addK_ge {x y : C4} {k j : Int} (h : ¬ k < j) : addK x k y j = ⟨x.a + (rpow (k - j).toNat y).a, x.b + (rpow (k - j).toNat y).b, x.c + (rpow (k - j).toNat y).c, x.d + (rpow (k - j).toNat y).d⟩ := by
  have h1 : max k j = k := by omega
  unfold addK
  rw [h1, show (k - k).toNat = 0 by omega]
  rfl
end Amp

/- Layer 1, plainly: the sum of a list. No condition. -/

namespace Amp
def sumL : C4 → Int → List Num → Res
  | s, k, [] => ⟨s, k, 0⟩
  | s, k, z :: l => if (made (addK s k z.x z.k) (max k z.k)).e = 0 then sumL (made (addK s k z.x z.k) (max k z.k)).x (made (addK s k z.x z.k) (max k z.k)).k l else fail (made (addK s k z.x z.k) (max k z.k)).e
def sumN (l : List Num) : Res := if 1000 < l.length then fail 2 else if (l.all fun z => validB z.x z.k) = true then sumL zero 0 l else fail 10
theorem made_cases (x : C4) (k : Int) : (∃ y j, made x k = ⟨y, j, 0⟩ ∧ validB y j = true) ∨ made x k = fail 4 := by
  unfold made
  split
  · rename_i h; exact .inl ⟨_, _, rfl, h⟩
  · exact .inr rfl
theorem sumL_step {s : C4} {k : Int} {l : List Num} {i : Nat} {z : Num} (h : l[i]? = some z) {y : C4} {j : Int} (hm : made (addK s k z.x z.k) (max k z.k) = ⟨y, j, 0⟩) : sumL s k (l.drop i) = sumL y j (l.drop (i + 1)) := by
  obtain ⟨hi, rfl⟩ := List.getElem?_eq_some_iff.1 h
  rw [List.drop_eq_getElem_cons hi]
  simp [sumL, hm]
theorem sumL_fail {s : C4} {k : Int} {l : List Num} {i : Nat} {z : Num} (h : l[i]? = some z) (hm : made (addK s k z.x z.k) (max k z.k) = fail 4) : sumL s k (l.drop i) = fail 4 := by
  obtain ⟨hi, rfl⟩ := List.getElem?_eq_some_iff.1 h
  rw [List.drop_eq_getElem_cons hi]
  simp [sumL, hm, fail]
theorem sumL_end {s : C4} {k : Int} {l : List Num} : sumL s k (l.drop l.length) = ⟨s, k, 0⟩ := by
  rw [List.drop_length]; rfl
theorem valid_of {l : List Num} (h : (l.all fun z => validB z.x z.k) = true) {i : Nat} {z : Num} (hz : l[i]? = some z) : validB z.x z.k = true :=
  List.all_eq_true.1 h z (List.mem_of_getElem? hz)
theorem valid_zero : validB zero 0 = true := by decide
end Amp
