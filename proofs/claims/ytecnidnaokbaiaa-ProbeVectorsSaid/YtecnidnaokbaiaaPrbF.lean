/- Layer 9: the octant of the reference. Conditions: within a million, not zero. -/
import Derived.Test.YtecnidnaokbaiaaPrbA
import Derived.Test.YtecnidnaokbaiaaPrbOct
namespace Go.Proofs.Ytecnidnaokbaiaa
open Go Go.RowKit Prb Amp

set_option maxHeartbeats 800000 in
theorem roct_first (x y : Int) (w : World) (x1 : -1000000 ≤ x) (x2 : x ≤ 1000000) (y1 : -1000000 ≤ y) (y2 : y ≤ 1000000) (hx : 0 < x) (hy : 0 ≤ y) :
    Calls Try.prog 25 #[.int .i64 x, .int .i64 y] w fun e w' => e = .returned (.int .i64 ((octN x y : Nat) : Int)) ∧ Grew w w' := by
  have ho : octN x y = q1 x y := by unfold octN; rw [if_pos ⟨hx, hy⟩]
  have hq : q1 x y = if (x + y) * (x + y) < 2 * x * x then 0 else if (x + y) * (x + y) < 2 * y * y then 2 else 1 := rfl
  obtain ⟨_, _⟩ := sq_bd (x := x + y) (B := 2000000) (by omega) (by omega)
  obtain ⟨_, _⟩ := sq_bd (x := x) (B := 1000000) (by omega) (by omega)
  obtain ⟨_, _⟩ := sq_bd (x := y) (B := 1000000) (by omega) (by omega)
  have e0 : 2 * x * x = 2 * (x * x) := by grind
  have e1 : 2 * y * y = 2 * (y * y) := by grind
  have b0 : 0 ≤ 2 * x * x ∧ 2 * x * x ≤ 2000000000000 := by omega
  have b1 : 0 ≤ 2 * y * y ∧ 2 * y * y ≤ 2000000000000 := by omega
  obtain ⟨_, _⟩ := b0
  obtain ⟨_, _⟩ := b1
  clear e0 e1
  by_cases h0 : (x + y) * (x + y) < 2 * x * x
  · have He := hid (ho.trans (hq.trans (if_pos h0)))
    clear ho hq
    go_enter Try.func25, Try.ntmps25
    go_wp2_with fail
    go_ret
    exact ⟨ret_int9 (by rw [He.out]; rfl), (by repeat (first | exact Grew.refl _ | refine Grew.drewN ?_ _ | refine Grew.grow ?_ _ | refine Grew.alloc ?_ _ | refine Grew.drew ?_))⟩
  · by_cases h1 : (x + y) * (x + y) < 2 * y * y
    · have He := hid (ho.trans (hq.trans ((if_neg h0).trans (if_pos h1))))
      have g0 : decide ((x + y) * (x + y) < 2 * x * x) = false := decide_eq_false h0
      clear ho hq
      go_enter Try.func25, Try.ntmps25
      go_wp2_with fail
      go_ret
      exact ⟨ret_int9 (by rw [He.out]; rfl), (by repeat (first | exact Grew.refl _ | refine Grew.drewN ?_ _ | refine Grew.grow ?_ _ | refine Grew.alloc ?_ _ | refine Grew.drew ?_))⟩
    · have He := hid (ho.trans (hq.trans ((if_neg h0).trans (if_neg h1))))
      have g0 : decide ((x + y) * (x + y) < 2 * x * x) = false := decide_eq_false h0
      have g1 : decide ((x + y) * (x + y) < 2 * y * y) = false := decide_eq_false h1
      clear ho hq
      go_enter Try.func25, Try.ntmps25
      go_wp2_with fail
      go_ret
      exact ⟨ret_int9 (by rw [He.out]; rfl), (by repeat (first | exact Grew.refl _ | refine Grew.drewN ?_ _ | refine Grew.grow ?_ _ | refine Grew.alloc ?_ _ | refine Grew.drew ?_))⟩

set_option maxHeartbeats 800000 in
theorem roct_step (x y : Int) (w : World) (x1 : -1000000 ≤ x) (x2 : x ≤ 1000000) (y1 : -1000000 ≤ y) (y2 : y ≤ 1000000) (hn : x ≤ 0 ∨ y < 0) (hz : ¬ (x = 0 ∧ y = 0)) (H : ∀ w, Calls Try.prog 25 #[.int .i64 y, .int .i64 (-x)] w fun e w' => e = .returned (.int .i64 ((octN y (-x) : Nat) : Int)) ∧ Grew w w') :
    Calls Try.prog 25 #[.int .i64 x, .int .i64 y] w fun e w' => e = .returned (.int .i64 ((octN x y : Nat) : Int)) ∧ Grew w w' := by
  have hq := oct_quarter hz
  have hl := octN_lt y (-x)
  generalize octN y (-x) = o at *
  have HQ := hid hq
  have HH := hid H
  clear hq H hz
  by_cases hx : x ≤ 0
  · go_enter Try.func25, Try.ntmps25
    go_wp2_with fail
    refine (HH.out _).mono ?_
    rintro e w' ⟨rfl, g, n, rfl⟩
    go_wp2_with fail
    go_ret
    exact ⟨ret_int9 (by rw [HQ.out]; omega), (by repeat (first | exact Grew.refl _ | refine Grew.drewN ?_ _ | refine Grew.grow ?_ _ | refine Grew.alloc ?_ _ | refine Grew.drew ?_))⟩
  · have g0 : decide (x ≤ 0) = false := decide_eq_false hx
    have g1 : y < 0 := by omega
    go_enter Try.func25, Try.ntmps25
    go_wp2_with fail
    refine (HH.out _).mono ?_
    rintro e w' ⟨rfl, g, n, rfl⟩
    go_wp2_with fail
    go_ret
    exact ⟨ret_int9 (by rw [HQ.out]; omega), (by repeat (first | exact Grew.refl _ | refine Grew.drewN ?_ _ | refine Grew.grow ?_ _ | refine Grew.alloc ?_ _ | refine Grew.drew ?_))⟩

theorem roct_any (x y : Int) (w : World) (x1 : -1000000 ≤ x) (x2 : x ≤ 1000000) (y1 : -1000000 ≤ y) (y2 : y ≤ 1000000) (hz : ¬ (x = 0 ∧ y = 0)) :
    Calls Try.prog 25 #[.int .i64 x, .int .i64 y] w fun e w' => e = .returned (.int .i64 ((octN x y : Nat) : Int)) ∧ Grew w w' := by
  have step1 : ∀ (x y : Int) (w : World), -1000000 ≤ x → x ≤ 1000000 → -1000000 ≤ y → y ≤ 1000000 → 0 < y → x ≤ 0 → Calls Try.prog 25 #[.int .i64 x, .int .i64 y] w fun e w' => e = .returned (.int .i64 ((octN x y : Nat) : Int)) ∧ Grew w w' :=
    fun x y w a b c d h1 h2 => roct_step x y w a b c d (.inl h2) (by omega) fun w => roct_first y (-x) w (by omega) (by omega) (by omega) (by omega) h1 (by omega)
  have step2 : ∀ (x y : Int) (w : World), -1000000 ≤ x → x ≤ 1000000 → -1000000 ≤ y → y ≤ 1000000 → x < 0 → y ≤ 0 → Calls Try.prog 25 #[.int .i64 x, .int .i64 y] w fun e w' => e = .returned (.int .i64 ((octN x y : Nat) : Int)) ∧ Grew w w' :=
    fun x y w a b c d h1 h2 => roct_step x y w a b c d (.inl (by omega)) (by omega) fun w => step1 y (-x) w (by omega) (by omega) (by omega) (by omega) (by omega) (by omega)
  by_cases h1 : 0 < x ∧ 0 ≤ y
  · exact roct_first x y w x1 x2 y1 y2 h1.1 h1.2
  by_cases h2 : 0 < y ∧ x ≤ 0
  · exact step1 x y w x1 x2 y1 y2 h2.1 h2.2
  by_cases h3 : x < 0 ∧ y ≤ 0
  · exact step2 x y w x1 x2 y1 y2 h3.1 h3.2
  exact roct_step x y w x1 x2 y1 y2 (.inr (by omega)) hz fun w => step2 y (-x) w (by omega) (by omega) (by omega) (by omega) (by omega) (by omega)

/-- An octant and an error. -/
def octV (m x y : Int) : Int := if vldB m x y = true then (if x = 0 ∧ y = 0 then 0 else ((octN x y : Nat) : Int)) else 0
def octE (m x y : Int) : Int := if vldB m x y = true then (if x = 0 ∧ y = 0 then 5 else 0) else 90

set_option maxHeartbeats 800000 in
theorem rOctant_any (m x y : Int) (w : World) :
    Calls Try.prog 16 #[.agg #[.int .i64 m, .int .i64 x, .int .i64 y]] w fun e w' => e = .returned (.tuple #[.int .i64 (octV m x y), .int .i64 (octE m x y)]) ∧ Grew w w' := by
  have HV := hid fun w => rVldF_any m x y w
  by_cases hv : vldB m x y = true
  case neg =>
    have hE : Hid (octE m x y = 90) := if_neg hv
    have hV : Hid (octV m x y = 0) := if_neg hv
    rw [show vldB m x y = false by simpa using hv] at HV
    clear hv
    go_enter Try.func16, Try.ntmps16
    go_wp2_with fail
    refine (HV.out _).mono ?_
    rintro e w' ⟨rfl, g, n, rfl⟩
    go_wp2_with fail
    go_ret2
    exact ⟨by rw [hE.out, hV.out]; rfl, (by repeat (first | exact Grew.refl _ | refine Grew.drewN ?_ _ | refine Grew.grow ?_ _ | refine Grew.alloc ?_ _ | refine Grew.drew ?_))⟩
  by_cases hz : x = 0 ∧ y = 0
  case pos =>
    have hE : Hid (octE m x y = 5) := (if_pos hv).trans (if_pos hz)
    have hV : Hid (octV m x y = 0) := (if_pos hv).trans (if_pos hz)
    rw [hv] at HV
    clear hv
    obtain ⟨rfl, rfl⟩ := hz
    go_enter Try.func16, Try.ntmps16
    go_wp2_with fail
    refine (HV.out _).mono ?_
    rintro e w' ⟨rfl, g, n, rfl⟩
    go_wp2_with fail
    go_ret2
    exact ⟨by rw [hE.out, hV.out]; rfl, (by repeat (first | exact Grew.refl _ | refine Grew.drewN ?_ _ | refine Grew.grow ?_ _ | refine Grew.alloc ?_ _ | refine Grew.drew ?_))⟩
  have hE : Hid (octE m x y = 0) := (if_pos hv).trans (if_neg hz)
  have hV : Hid (octV m x y = ((octN x y : Nat) : Int)) := (if_pos hv).trans (if_neg hz)
  obtain ⟨⟨m1, m2⟩, ⟨x1, x2⟩, ⟨y1, y2⟩, _⟩ := vldB_iff.1 hv
  have HO := hid fun w => roct_any x y w x1 x2 y1 y2 hz
  rw [hv] at HV
  have hxy : ¬ x = 0 ∨ (x = 0 ∧ ¬ y = 0) := by omega
  clear hv hz
  rcases hxy with h | ⟨h, h'⟩
  · have g0 : (x == 0) = false := by simpa using h
    clear h
    go_enter Try.func16, Try.ntmps16
    go_wp2_with fail
    refine (HV.out _).mono ?_
    rintro e w' ⟨rfl, g, n, rfl⟩
    go_wp2_with fail
    refine (HO.out _).mono ?_
    rintro e w' ⟨rfl, g1, n1, rfl⟩
    go_wp2_with fail
    go_ret2
    exact ⟨by rw [hE.out, hV.out]; rfl, (by repeat (first | exact Grew.refl _ | refine Grew.drewN ?_ _ | refine Grew.grow ?_ _ | refine Grew.alloc ?_ _ | refine Grew.drew ?_))⟩
  · have g1 : (y == 0) = false := by simpa using h'
    subst h
    clear h'
    go_enter Try.func16, Try.ntmps16
    go_wp2_with fail
    refine (HV.out _).mono ?_
    rintro e w' ⟨rfl, g, n, rfl⟩
    go_wp2_with fail
    refine (HO.out _).mono ?_
    rintro e w' ⟨rfl, g1, n1, rfl⟩
    go_wp2_with fail
    go_ret2
    exact ⟨by rw [hE.out, hV.out]; rfl, (by repeat (first | exact Grew.refl _ | refine Grew.drewN ?_ _ | refine Grew.grow ?_ _ | refine Grew.alloc ?_ _ | refine Grew.drew ?_))⟩

end Go.Proofs.Ytecnidnaokbaiaa
