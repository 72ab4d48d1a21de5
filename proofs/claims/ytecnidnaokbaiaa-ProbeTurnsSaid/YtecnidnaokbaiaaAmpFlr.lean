/- Layer 1, plainly: the greatest whole number that is at most (p + q r) / u, and bounds. No condition. -/
import Derived.Test.YtecnidnaokbaiaaAmpSgnB
namespace Amp

def isq : Nat → Nat
  | 0 => 0
  | n + 1 => if (isq n + 1) * (isq n + 1) ≤ n + 1 then isq n + 1 else isq n
theorem isq_spec : ∀ n, isq n * isq n ≤ n ∧ n < (isq n + 1) * (isq n + 1)
  | 0 => by decide
  | n + 1 => by
    obtain ⟨h1, h2⟩ := isq_spec n
    unfold isq
    generalize isq n = s at *
    split
    · rename_i h
      refine ⟨h, ?_⟩
      have : (s + 1 + 1) * (s + 1 + 1) = (s + 1) * (s + 1) + 2 * (s + 1) + 1 := by grind
      omega
    · exact ⟨by omega, by omega⟩
theorem isq_uniq {n s t : Nat} (h1 : s * s ≤ n) (h2 : n < (s + 1) * (s + 1)) (h3 : t * t ≤ n) (h4 : n < (t + 1) * (t + 1)) : s = t := by
  rcases Nat.lt_trichotomy s t with h | h | h
  · have : (s + 1) * (s + 1) ≤ t * t := Nat.mul_le_mul h h
    omega
  · exact h
  · have : (t + 1) * (t + 1) ≤ s * s := Nat.mul_le_mul h h
    omega
theorem isq_eq {n s : Nat} (h1 : s * s ≤ n) (h2 : n < (s + 1) * (s + 1)) : isq n = s :=
  isq_uniq (isq_spec n).1 (isq_spec n).2 h1 h2

/-- The greatest n with n u at most p + q r. -/
def FlAt (p q u n : Int) : Prop := 0 ≤ sgn (p - n * u) q ∧ sgn (p - (n + 1) * u) q < 0
theorem pos_one {c : Int} (h : 0 < c) : Pos c 0 := .inl ⟨h, by have := Int.mul_pos h h; omega⟩
theorem sgn_up {a b c : Int} (h : 0 ≤ sgn a b) (hc : 0 < c) : sgn (a + c) b = 1 := by
  rcases sgn_cases a b with ⟨rfl, rfl, _⟩ | ⟨h1, _⟩ | ⟨_, h1⟩
  · rw [Int.zero_add]; exact sgn_pos (pos_one hc)
  · have := h1.add (pos_one hc)
    rw [Int.add_zero] at this
    exact sgn_pos this
  · omega
theorem sgn_up0 {a b c : Int} (h : 0 ≤ sgn a b) (hc : 0 ≤ c) : 0 ≤ sgn (a + c) b := by
  rcases Int.lt_or_eq_of_le hc with h1 | h1
  · rw [sgn_up h h1]; decide
  · rw [← h1, Int.add_zero]; exact h
theorem sgn_down {a b c : Int} (h : sgn a b < 0) (hc : 0 ≤ c) : sgn (a - c) b < 0 := by
  apply Int.lt_of_not_ge
  intro h1
  have := sgn_up0 h1 hc
  rw [Int.sub_add_cancel] at this
  omega
theorem FlAt.le {p q u n m : Int} (hu : 0 < u) (h : FlAt p q u n) (hm : 0 ≤ sgn (p - m * u) q) : m ≤ n := by
  apply Int.le_of_not_gt
  intro hlt
  have h1 : (n + 1) * u ≤ m * u := Int.mul_le_mul_of_nonneg_right (by omega) (by omega)
  have h2 := sgn_down h.2 (c := m * u - (n + 1) * u) (by omega)
  rw [show p - (n + 1) * u - (m * u - (n + 1) * u) = p - m * u by omega] at h2
  omega
theorem FlAt.uniq {p q u n m : Int} (hu : 0 < u) (h : FlAt p q u n) (k : FlAt p q u m) : n = m := by
  have h1 := h.le hu k.1
  have h2 := k.le hu h.1
  omega
theorem FlAt.lt {p q u n m : Int} (hu : 0 < u) (h : FlAt p q u n) (hm : sgn (p - m * u) q < 0) : n < m := by
  apply Int.lt_of_not_ge
  intro hle
  have h1 : m * u ≤ n * u := Int.mul_le_mul_of_nonneg_right hle (by omega)
  have h2 := sgn_up0 h.1 (c := n * u - m * u) (by omega)
  rw [show p - n * u + (n * u - m * u) = p - m * u by omega] at h2
  omega

def floorN (p q : Int) : Int := if 0 < q then p + isq (2 * (q.natAbs * q.natAbs)) else if q < 0 then p - isq (2 * (q.natAbs * q.natAbs)) - 1 else p
theorem isq_int (q : Int) : ((isq (2 * (q.natAbs * q.natAbs)) : Nat) : Int) * (isq (2 * (q.natAbs * q.natAbs)) : Nat) ≤ 2 * (q * q) ∧ 2 * (q * q) < (((isq (2 * (q.natAbs * q.natAbs)) : Nat) : Int) + 1) * (((isq (2 * (q.natAbs * q.natAbs)) : Nat) : Int) + 1) := by
  obtain ⟨h1, h2⟩ := isq_spec (2 * (q.natAbs * q.natAbs))
  have e := sq_nat q
  generalize isq (2 * (q.natAbs * q.natAbs)) = s at *
  have h3 : ((s * s : Nat) : Int) ≤ 2 * ((q.natAbs * q.natAbs : Nat) : Int) := by omega
  have h4 : 2 * ((q.natAbs * q.natAbs : Nat) : Int) < (((s + 1) * (s + 1) : Nat) : Int) := by omega
  rw [← e] at h3 h4
  rw [Int.natCast_mul] at h3 h4
  exact ⟨h3, by simpa using h4⟩
theorem floorN_at (p q : Int) : FlAt p q 1 (floorN p q) := by
  obtain ⟨h1, h2⟩ := isq_int q
  have hs : (0 : Int) ≤ (isq (2 * (q.natAbs * q.natAbs)) : Nat) := Int.natCast_nonneg _
  unfold floorN FlAt
  generalize ((isq (2 * (q.natAbs * q.natAbs)) : Nat) : Int) = s at *
  by_cases hq : 0 < q
  · rw [if_pos hq]
    have hne : s * s ≠ 2 * (q * q) := fun he => by have := (irr he).2; omega
    refine ⟨?_, ?_⟩
    · rw [show p - (p + s) * 1 = -s by omega, sgn_pos (.inr ⟨hq, by rw [neg_sq]; omega⟩)]; decide
    · rw [show p - (p + s + 1) * 1 = -(s + 1) by omega, sgn_negp (.inl ⟨by omega, by rw [Int.neg_neg, neg_sq]; exact h2⟩)]
      decide
  · rw [if_neg hq]
    by_cases hq2 : q < 0
    · rw [if_pos hq2]
      have hne : s * s ≠ 2 * (q * q) := fun he => by have := (irr he).2; omega
      refine ⟨?_, ?_⟩
      · rw [show p - (p - s - 1) * 1 = s + 1 by omega, sgn_pos (.inl ⟨by omega, h2⟩)]; decide
      · rw [show p - (p - s - 1 + 1) * 1 = s by omega, sgn_negp (.inr ⟨by omega, by rw [neg_sq, neg_sq]; omega⟩)]; decide
    · rw [if_neg hq2]
      obtain rfl : q = 0 := by omega
      rw [show p - p * 1 = 0 by omega, show p - (p + 1) * 1 = -1 by omega]
      decide
theorem floor_div {p q u n : Int} (hu : 0 < u) (h : FlAt p q 1 n) : FlAt p q u (n / u) := by
  have e := Int.mul_ediv_add_emod n u
  have r0 := Int.emod_nonneg n (show u ≠ 0 by omega)
  have r1 := Int.emod_lt_of_pos n hu
  obtain ⟨h1, h2⟩ := h
  generalize n / u = m at *
  generalize n % u = r at *
  have e1 : m * u = n - r := by rw [Int.mul_comm]; omega
  have e2 : (m + 1) * u = n - r + u := by rw [Int.add_mul, e1]; omega
  refine ⟨?_, ?_⟩
  · have := sgn_up0 h1 (c := r) r0
    rw [e1, show p - (n - r) = p - n * 1 + r by omega]
    exact this
  · have := sgn_down h2 (c := u - r - 1) (by omega)
    rw [e2, show p - (n - r + u) = p - (n + 1) * 1 - (u - r - 1) by omega]
    exact this
theorem sgn_mul {a b c : Int} (hc : 0 < c) : sgn (c * a) (c * b) = sgn a b := by
  have key : ∀ x y : Int, Pos x y → Pos (c * x) (c * y) := by
    intro x y h
    have hcc := Int.mul_pos hc hc
    have e1 : ∀ z : Int, c * z * (c * z) = c * c * (z * z) := fun z => by grind
    rcases h with ⟨h1, h2⟩ | ⟨h1, h2⟩
    · refine .inl ⟨Int.mul_pos hc h1, ?_⟩
      rw [e1, e1]
      have := Int.mul_lt_mul_of_pos_left h2 hcc
      have e2 : c * c * (2 * (y * y)) = 2 * (c * c * (y * y)) := by grind
      omega
    · refine .inr ⟨Int.mul_pos hc h1, ?_⟩
      rw [e1, e1]
      have := Int.mul_lt_mul_of_pos_left h2 hcc
      have e2 : c * c * (2 * (y * y)) = 2 * (c * c * (y * y)) := by grind
      omega
  rcases sgn_cases a b with ⟨rfl, rfl, h⟩ | ⟨h1, h⟩ | ⟨h1, h⟩
  · simp
  · rw [h, sgn_pos (key _ _ h1)]
  · rw [h]
    apply sgn_negp
    have := key _ _ h1
    rwa [Int.mul_neg, Int.mul_neg] at this
theorem FlAt.mul {p q u n c : Int} (hc : 0 < c) : FlAt (c * p) (c * q) (c * u) n ↔ FlAt p q u n := by
  unfold FlAt
  rw [show c * p - n * (c * u) = c * (p - n * u) by grind, show c * p - (n + 1) * (c * u) = c * (p - (n + 1) * u) by grind, sgn_mul hc, sgn_mul hc]
/-- The least number from above. -/
theorem FlAt.ceil {p q u n m : Int} (hu : 0 < u) (h : FlAt p q u n) (k : FlAt (-p) (-q) u m) : -m = if sgn (p - n * u) q = 0 then n else n + 1 := by
  have e : ∀ t : Int, sgn (-p - t * u) (-q) = -sgn (p - (-t) * u) q := fun t => by
    rw [← sgn_opp, show -(p - -t * u) = -p - t * u by grind]
  split
  · rename_i h0
    have : FlAt (-p) (-q) u (-n) := by
      refine ⟨by rw [e, Int.neg_neg, h0]; decide, ?_⟩
      rw [e]
      obtain ⟨h1, h2⟩ := sgn_eq_zero.1 h0
      rw [show p - -(-n + 1) * u = u by grind, h2, sgn_pos (pos_one hu)]
      decide
    rw [this.uniq hu k |>.symm]; omega
  · rename_i h0
    have : FlAt (-p) (-q) u (-(n + 1)) := by
      obtain ⟨h1, h2⟩ := h
      refine ⟨by rw [e, Int.neg_neg]; omega, ?_⟩
      rw [e, show -(-(n + 1) + 1) = n by omega]
      omega
    rw [this.uniq hu k |>.symm]; omega

def nP (p q e : Int) : Int := if e % 2 = 0 then p else 2 * q
def nQ (p q e : Int) : Int := if e % 2 = 0 then q else p
/-- The greatest whole number that is at most (p + q r) r^e. -/
def lowN (p q e : Int) : Int := if 0 ≤ e / 2 then floorN (2 ^ (e / 2).toNat * nP p q e) (2 ^ (e / 2).toNat * nQ p q e) else floorN (nP p q e) (nQ p q e) / 2 ^ (-(e / 2)).toNat
def hiN (p q e : Int) : Int := -lowN (-p) (-q) e
def cN (e : Int) : Int := if 0 ≤ e / 2 then 2 ^ (e / 2).toNat else 1
def uN (e : Int) : Int := if 0 ≤ e / 2 then 1 else 2 ^ (-(e / 2)).toNat
theorem two_pos (n : Nat) : (0 : Int) < 2 ^ n := Int.pow_pos (by decide)
theorem uN_pos (e : Int) : 0 < uN e := by
  unfold uN; split
  · decide
  · exact two_pos _
theorem cN_pos (e : Int) : 0 < cN e := by
  unfold cN; split
  · exact two_pos _
  · decide
theorem lowN_at (p q e : Int) : FlAt (cN e * nP p q e) (cN e * nQ p q e) (uN e) (lowN p q e) := by
  unfold lowN cN uN
  split
  · exact floorN_at _ _
  · rw [Int.one_mul, Int.one_mul]
    exact floor_div (two_pos _) (floorN_at _ _)
theorem nP_neg (p q e : Int) : nP (-p) (-q) e = -nP p q e := by
  unfold nP; split
  · rfl
  · rw [Int.mul_neg]
theorem nQ_neg (p q e : Int) : nQ (-p) (-q) e = -nQ p q e := by
  unfold nQ; split <;> rfl
theorem hiN_eq (p q e : Int) : hiN p q e = if sgn (cN e * nP p q e - lowN p q e * uN e) (cN e * nQ p q e) = 0 then lowN p q e else lowN p q e + 1 := by
  have h := lowN_at (-p) (-q) e
  rw [nP_neg, nQ_neg, Int.mul_neg, Int.mul_neg] at h
  exact (lowN_at p q e).ceil (uN_pos e) h
theorem hiN_le (p q e : Int) : lowN p q e ≤ hiN p q e ∧ hiN p q e ≤ lowN p q e + 1 := by
  rw [hiN_eq]; split <;> omega
theorem cu_next (e : Int) : cN (e + 2) * uN e = 2 * (cN e * uN (e + 2)) := by
  unfold cN uN
  have h : (e + 2) / 2 = e / 2 + 1 := by omega
  rw [h]
  generalize e / 2 = m
  by_cases h0 : 0 ≤ m
  · rw [if_pos (by omega), if_pos h0, if_pos h0, if_pos (by omega), show (m + 1).toNat = m.toNat + 1 by omega, Int.pow_succ]
    omega
  · by_cases h1 : m = -1
    · subst h1; decide
    · rw [if_neg (by omega), if_neg h0, if_neg h0, if_neg (by omega), show (-m).toNat = (-(m + 1)).toNat + 1 by omega, Int.pow_succ]
      omega
/-- One bit more: twice the bounds. -/
theorem lowN_next (p q e : Int) : 2 * lowN p q e ≤ lowN p q (e + 2) := by
  have h1 := lowN_at p q e
  have h2 := lowN_at p q (e + 2)
  have e1 : nP p q (e + 2) = nP p q e := by unfold nP; rw [show (e + 2) % 2 = e % 2 by omega]
  have e2 : nQ p q (e + 2) = nQ p q e := by unfold nQ; rw [show (e + 2) % 2 = e % 2 by omega]
  rw [e1, e2] at h2
  have hc := cu_next e
  have c1 := cN_pos e
  have c2 := cN_pos (e + 2)
  have u1 := uN_pos e
  have u2 := uN_pos (e + 2)
  generalize lowN p q e = n at *
  generalize lowN p q (e + 2) = m at *
  generalize nP p q e = P at *
  generalize nQ p q e = Q at *
  generalize cN e = c at *
  generalize cN (e + 2) = c' at *
  generalize uN e = u at *
  generalize uN (e + 2) = u' at *
  apply h2.le u2
  have h3 := h1.1
  rw [← sgn_mul c2] at h3
  rw [← sgn_mul c1]
  have a1 : c * (c' * P - 2 * n * u') = c' * (c * P - n * u) := by grind
  have a2 : c * (c' * Q) = c' * (c * Q) := by grind
  rw [a1, a2]
  exact h3
theorem hiN_next (p q e : Int) : hiN p q (e + 2) ≤ 2 * hiN p q e := by
  unfold hiN
  have := lowN_next (-p) (-q) e
  omega
theorem floorN_zero (p : Int) : floorN p 0 = p := by unfold floorN; rw [if_neg (by decide), if_neg (by decide)]
theorem lowN_whole (n : Int) (k : Nat) : lowN 0 n (2 * k - 1) = 2 ^ k * n := by
  unfold lowN nP nQ
  rw [if_neg (show ¬ (2 * (k : Int) - 1) % 2 = 0 by omega), if_neg (show ¬ (2 * (k : Int) - 1) % 2 = 0 by omega), Int.mul_zero, floorN_zero, floorN_zero]
  cases k with
  | zero =>
    rw [if_neg (by decide)]
    show 2 * n / 2 = 1 * n
    omega
  | succ k =>
    rw [if_pos (by omega), show ((2 * ((k + 1 : Nat) : Int) - 1) / 2).toNat = k by omega, Int.pow_succ]
    grind
theorem lowN_zero (e : Int) : lowN 0 0 e = 0 := by
  unfold lowN nP nQ
  simp [floorN_zero]
end Amp
