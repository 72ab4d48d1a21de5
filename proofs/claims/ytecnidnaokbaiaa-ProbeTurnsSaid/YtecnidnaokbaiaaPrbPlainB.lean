/- Layer 9, plainly: visibilities. No condition. -/
import Derived.Test.YtecnidnaokbaiaaPrbPlain
namespace Prb
/-- A fraction and an error. -/
structure RtE where
  n : Int
  d : Int
  e : Int
  deriving DecidableEq
def visN (m x y : Int) : RtE := if vldB m x y = true then (if m = 0 then ⟨0, 0, 5⟩ else ⟨(x * x + y * y) / (Nat.gcd (x * x + y * y).toNat (m * m).toNat : Int), (m * m) / (Nat.gcd (x * x + y * y).toNat (m * m).toNat : Int), 0⟩) else ⟨0, 0, 90⟩
theorem visN_bad {m x y : Int} (h : ¬ vldB m x y = true) : visN m x y = ⟨0, 0, 90⟩ := if_neg h
theorem visN_none {m x y : Int} (h : vldB m x y = true) (h0 : m = 0) : visN m x y = ⟨0, 0, 5⟩ := (if_pos h).trans (if_pos h0)
theorem visN_ok {m x y : Int} (h : vldB m x y = true) (h0 : ¬ m = 0) : visN m x y = ⟨(x * x + y * y) / (Nat.gcd (x * x + y * y).toNat (m * m).toNat : Int), (m * m) / (Nat.gcd (x * x + y * y).toNat (m * m).toNat : Int), 0⟩ := (if_pos h).trans (if_neg h0)
theorem gcd_step (a b : Nat) : Nat.gcd b (a % b) = Nat.gcd a b := by
  rw [Nat.gcd_comm a b, Nat.gcd_rec b a, Nat.gcd_comm]
/-- A visibility is from 0 to 1. -/
theorem vis_range {m x y : Int} (h : vldB m x y = true) (h0 : ¬ m = 0) : 0 ≤ (visN m x y).n ∧ 1 ≤ (visN m x y).d ∧ (visN m x y).n ≤ (visN m x y).d ∧ (visN m x y).e = 0 := by
  rw [visN_ok h h0]
  obtain ⟨⟨m1, m2⟩, ⟨x1, x2⟩, ⟨y1, y2⟩, hle⟩ := vldB_iff.1 h
  obtain ⟨a1, _⟩ := sq_bd (B := 1000000) x1 x2
  obtain ⟨a2, _⟩ := sq_bd (B := 1000000) y1 y2
  have hm : 0 < m * m := Int.mul_pos (by omega) (by omega)
  simp only []
  have hn0 : 0 ≤ x * x + y * y := by omega
  generalize x * x + y * y = n at *
  generalize m * m = d at *
  have hg : 0 < Nat.gcd n.toNat d.toNat := Nat.gcd_pos_of_pos_right _ (by omega)
  have hdv : (Nat.gcd n.toNat d.toNat : Int) ∣ d := by
    have := Nat.gcd_dvd_right n.toNat d.toNat
    have h2 : ((Nat.gcd n.toNat d.toNat : Nat) : Int) ∣ ((d.toNat : Nat) : Int) := Int.natCast_dvd_natCast.2 this
    rwa [Int.toNat_of_nonneg (by omega)] at h2
  generalize (Nat.gcd n.toNat d.toNat) = g at *
  refine ⟨Int.ediv_nonneg (by omega) (by omega), ?_, Int.ediv_le_ediv (by omega) hle, trivial⟩
  obtain ⟨c, rfl⟩ := hdv
  rw [Int.mul_ediv_cancel_left _ (by omega)]
  exact Int.le_of_not_gt fun hc => by
    have : (g : Int) * c ≤ 0 := Int.mul_nonpos_of_nonneg_of_nonpos (by omega) (by omega)
    omega
end Prb
