/- Layer 9, plainly: fringes and readings. No condition. -/

namespace Prb

structure Fr where
  m : Int
  x : Int
  y : Int
  deriving DecidableEq
def vldB (m x y : Int) : Bool := decide (0 ≤ m ∧ m ≤ 2000000) && decide (-1000000 ≤ x ∧ x ≤ 1000000) && decide (-1000000 ≤ y ∧ y ≤ 1000000) && decide (x * x + y * y ≤ m * m)
theorem vldB_iff {m x y : Int} : vldB m x y = true ↔ (0 ≤ m ∧ m ≤ 2000000) ∧ (-1000000 ≤ x ∧ x ≤ 1000000) ∧ (-1000000 ≤ y ∧ y ≤ 1000000) ∧ x * x + y * y ≤ m * m := by
  unfold vldB
  simp only [Bool.and_eq_true, decide_eq_true_eq, and_assoc]
def rdB (a : Int) : Bool := decide (0 ≤ a ∧ a ≤ 1000000)
/-- A fringe and an error. -/
structure FrE where
  m : Int
  x : Int
  y : Int
  e : Int
def frN (a b c d : Int) : FrE := if rdB a && rdB b && rdB c && rdB d then (if a + c = b + d ∧ vldB (a + c) (a - c) (b - d) = true then ⟨a + c, a - c, b - d, 0⟩ else ⟨0, 0, 0, 90⟩) else ⟨0, 0, 0, 2⟩
def evB (t : Int) : Bool := decide (t % 2 = 0 ∧ 0 ≤ t ∧ t ≤ 2000000)
structure RdE where
  a : Int
  b : Int
  c : Int
  d : Int
  e : Int
def rdN (m x y : Int) : RdE := if vldB m x y = true then (if evB (m + x) && evB (m + y) && evB (m - x) && evB (m - y) then ⟨(m + x) / 2, (m + y) / 2, (m - x) / 2, (m - y) / 2, 0⟩ else ⟨0, 0, 0, 0, 2⟩) else ⟨0, 0, 0, 0, 90⟩

theorem rdB_iff {a : Int} : rdB a = true ↔ 0 ≤ a ∧ a ≤ 1000000 := by simp [rdB]
theorem evB_iff {t : Int} : evB t = true ↔ t % 2 = 0 ∧ 0 ≤ t ∧ t ≤ 2000000 := by simp [evB]
theorem frN_cases (a b c d : Int) : (∃ e, e ≠ 0 ∧ frN a b c d = ⟨0, 0, 0, e⟩) ∨ (frN a b c d = ⟨a + c, a - c, b - d, 0⟩ ∧ (0 ≤ a ∧ a ≤ 1000000) ∧ (0 ≤ b ∧ b ≤ 1000000) ∧ (0 ≤ c ∧ c ≤ 1000000) ∧ (0 ≤ d ∧ d ≤ 1000000) ∧ a + c = b + d ∧ vldB (a + c) (a - c) (b - d) = true) := by
  unfold frN
  split
  · rename_i h
    simp only [Bool.and_eq_true, rdB_iff] at h
    obtain ⟨⟨⟨h1, h2⟩, h3⟩, h4⟩ := h
    split
    · rename_i k; exact .inr ⟨rfl, h1, h2, h3, h4, k.1, k.2⟩
    · exact .inl ⟨90, by decide, rfl⟩
  · exact .inl ⟨2, by decide, rfl⟩
/-- The readings of the fringe of readings. -/
theorem rd_fr {a b c d : Int} (ha : 0 ≤ a ∧ a ≤ 1000000) (hb : 0 ≤ b ∧ b ≤ 1000000) (hc : 0 ≤ c ∧ c ≤ 1000000) (hd : 0 ≤ d ∧ d ≤ 1000000) (h : a + c = b + d) (hv : vldB (a + c) (a - c) (b - d) = true) : rdN (a + c) (a - c) (b - d) = ⟨a, b, c, d, 0⟩ := by
  unfold rdN
  rw [if_pos hv, if_pos]
  · rw [show (a + c + (a - c)) / 2 = a by omega, show (a + c + (b - d)) / 2 = b by omega, show (a + c - (a - c)) / 2 = c by omega, show (a + c - (b - d)) / 2 = d by omega]
  · simp only [Bool.and_eq_true, evB_iff]
    omega
theorem sq_bd {x B : Int} (h1 : -B ≤ x) (h2 : x ≤ B) : 0 ≤ x * x ∧ x * x ≤ B * B := by
  rcases Int.lt_or_le x 0 with h | h
  · have a1 : -x * -x = x * x := by grind
    have a2 : -x * -x ≤ B * B := Int.mul_le_mul (by omega) (by omega) (by omega) (by omega)
    have a3 : 0 ≤ -x * -x := Int.mul_nonneg (by omega) (by omega)
    omega
  · exact ⟨Int.mul_nonneg h h, Int.mul_le_mul (by omega) (by omega) (by omega) (by omega)⟩
end Prb

/- Layer 9, plainly: visibilities. No condition. -/

namespace Prb
/-- A fraction and an error. -/
structure RtE where
  n : Int
  d : Int
  e : Int
  deriving DecidableEq
def visN (m x y : Int) : RtE := if vldB m x y = true then (if m = 0 then ⟨0, 0, 5⟩ else ⟨(x * x + y * y) / (Nat.gcd (x * x + y * y).toNat (m * m).toNat : Int), (m * m) / (Nat.gcd (x * x + y * y).toNat (m * m).toNat : Int), 0⟩) else ⟨0, 0, 90⟩
theorem visN_bad {m x y : Int} (h : ¬ vldB m x y = true) : visN m x y = ⟨0, 0, 90⟩ := if_neg h
theorem visN_none {m x y : Int} (h : vldB m x y = true) (h0 : m = 0) : visN m x y = ⟨0, 0, 5⟩ := (if_pos h).trans (if_pos h0)
theorem visN_ok {m x y : Int} (h : vldB m x y = true) (h0 : ¬ m = 0) : visN m x y = ⟨(x * x + y * y) / (Nat.gcd (x * x + y * y).toNat (m * m).toNat : Int), (m * m) / (Nat.gcd (x * x + y * y).toNat (m * m).toNat : Int), 0⟩ := (if_pos h).trans (if_neg h0)
theorem gcd_step (a b : Nat) : Nat.gcd b (a % b) = Nat.gcd a b := by
  rw [Nat.gcd_comm a b, Nat.gcd_rec b a, Nat.gcd_comm]
/-- A visibility is from 0 to 1. -/
theorem vis_range {m x y : Int} (h : vldB m x y = true) (h0 : ¬ m = 0) : 0 ≤ (visN m x y).n ∧ 1 ≤ (visN m x y).d ∧ (visN m x y).n ≤ (visN m x y).d ∧ (visN m x y).e = 0 := by
  rw [visN_ok h h0]
  obtain ⟨⟨m1, m2⟩, ⟨x1, x2⟩, ⟨y1, y2⟩, hle⟩ := vldB_iff.1 h
  obtain ⟨a1, _⟩ := sq_bd (B := 1000000) x1 x2
  obtain ⟨a2, _⟩ := sq_bd (B := 1000000) y1 y2
  have hm : 0 < m * m := Int.mul_pos (by omega) (by omega)
  simp only []
  have hn0 : 0 ≤ x * x + y * y := by omega
  generalize x * x + y * y = n at *
  generalize m * m = d at *
  have hg : 0 < Nat.gcd n.toNat d.toNat := Nat.gcd_pos_of_pos_right _ (by omega)
  have hdv : (Nat.gcd n.toNat d.toNat : Int) ∣ d := by
    have := Nat.gcd_dvd_right n.toNat d.toNat
    have h2 : ((Nat.gcd n.toNat d.toNat : Nat) : Int) ∣ ((d.toNat : Nat) : Int) := Int.natCast_dvd_natCast.2 this
    rwa [Int.toNat_of_nonneg (by omega)] at h2
  generalize (Nat.gcd n.toNat d.toNat) = g at *
  refine ⟨Int.ediv_nonneg (by omega) (by omega), ?_, Int.ediv_le_ediv (by omega) hle, trivial⟩
  obtain ⟨c, rfl⟩ := hdv
  rw [Int.mul_ediv_cancel_left _ (by omega)]
  exact Int.le_of_not_gt fun hc => by
    have : (g : Int) * c ≤ 0 := Int.mul_nonpos_of_nonneg_of_nonpos (by omega) (by omega)
    omega
end Prb

/- Layer 9, plainly: sums of fringes. No condition. -/

namespace Prb
def okF (z : Fr) : Bool := vldB z.m z.x z.y
def allF (l : List Fr) : Bool := l.all okF
def addF (s z : Fr) : Fr := ⟨s.m + z.m, s.x + z.x, s.y + z.y⟩
def tot (l : List Fr) : Fr := l.foldl addF ⟨0, 0, 0⟩
def mixN (l : List Fr) : FrE := if allF l = true then (if 1 ≤ l.length ∧ l.length ≤ 100 then (if okF (tot l) = true then ⟨(tot l).m, (tot l).x, (tot l).y, 0⟩ else ⟨0, 0, 0, 4⟩) else ⟨0, 0, 0, 2⟩) else ⟨0, 0, 0, 90⟩
theorem tot_step {l : List Fr} {i : Nat} {z : Fr} (h : l[i]? = some z) : tot (l.take (i + 1)) = addF (tot (l.take i)) z := by
  unfold tot
  rw [List.take_add_one, h, List.foldl_append]
  rfl
theorem allF_step {l : List Fr} {i : Nat} {z : Fr} (h : l[i]? = some z) (hz : okF z = true) (hp : allF (l.take i) = true) : allF (l.take (i + 1)) = true := by
  unfold allF at *
  rw [List.take_add_one, h, List.all_append, hp]
  simp [hz]
theorem allF_at {l : List Fr} {i : Nat} {z : Fr} (h : l[i]? = some z) (hp : allF l = true) : okF z = true := by
  unfold allF at hp
  rw [List.all_eq_true] at hp
  exact hp z (List.mem_of_getElem? h)
theorem allF_cut {l : List Fr} {i : Nat} {z : Fr} (h : l[i]? = some z) (hz : okF z = false) : allF l = false := by
  unfold allF
  rw [List.all_eq_false]
  exact ⟨z, List.mem_of_getElem? h, by simp [hz]⟩
/-- A sum of i fringes is not great. -/
theorem tot_bd {l : List Fr} (hp : allF l = true) : ∀ i : Nat, i ≤ l.length → (0 ≤ (tot (l.take i)).m ∧ (tot (l.take i)).m ≤ 2000000 * (i : Int)) ∧ (-(1000000 * (i : Int)) ≤ (tot (l.take i)).x ∧ (tot (l.take i)).x ≤ 1000000 * (i : Int)) ∧ (-(1000000 * (i : Int)) ≤ (tot (l.take i)).y ∧ (tot (l.take i)).y ≤ 1000000 * (i : Int))
  | 0, _ => by simp [tot]
  | i + 1, hi => by
    obtain ⟨z, hz⟩ : ∃ z, l[i]? = some z := ⟨l[i], List.getElem?_eq_getElem hi⟩
    have ih := tot_bd hp i (by omega)
    obtain ⟨h1, h2, h3, _⟩ := vldB_iff.1 (allF_at hz hp)
    rw [tot_step hz]
    simp only [addF]
    omega
end Prb
