/- The reference's floor, continued; its span. Conditions: within a word. -/
import Derived.Test.YtmphmfhmcgpjcaaAmpZ
namespace Go.Proofs.Ytmphmfhmcgpjcaa
open Go Go.RowKit Amp

theorem div_bd {u T D : Int} (hu : 0 < u) (h1 : -12000000000 ≤ T) (h2 : T ≤ 12000000000) (hD : T / u = D) : -12000000000 ≤ D ∧ D ≤ 12000000000 := by
  subst hD
  constructor
  · apply (Int.le_ediv_iff_mul_le hu).2
    have : (-12000000000 : Int) * u ≤ -12000000000 * 1 := by omega
    omega
  · have h5 : T / u ≤ 12000000000 / u := Int.ediv_le_ediv hu h2
    have h6 : (12000000000 : Int) / u ≤ 12000000000 := Int.ediv_le_self _ (by decide)
    omega
theorem far_start {p q x P Q u T D : Int} (hD : T / u = D) (hu : 0 < u) (u2 : u ≤ 2097152) (hT : T ≤ 12000000000) (h1 : P ≤ T) (h2 : -P ≤ T) (h3 : P + 2 * Q ≤ T) (h4 : P - 2 * Q ≤ T) (h5 : -P + 2 * Q ≤ T) (h6 : -P - 2 * Q ≤ T)
    (hH : ∀ lo hi : Int, 0 ≤ sgn (P - lo * u) Q → sgn (P - hi * u) Q < 0 → Hid (Halving p q x P Q u lo hi)) :
    -(D + 2) < D + 2 ∧ -3400000000000000000 ≤ -(D + 2) ∧ D + 2 ≤ 3400000000000000000 ∧ -3400000000000000000 ≤ -(D + 2) * u ∧ (D + 2) * u ≤ 3400000000000000000 ∧ Hid (Halving p q x P Q u (-(D + 2)) (D + 2)) := by
  obtain ⟨t1, t2, t3, t4⟩ := far_div hu T (by omega)
  rw [hD] at t1 t2 t3 t4
  have e : -(D + 2) * u = -((D + 2) * u) := Int.neg_mul _ _
  refine ⟨by omega, by omega, by omega, by omega, by omega, hH _ _ (far_lo ?_ ?_ ?_) (far_hi ?_ ?_ ?_)⟩ <;> omega

set_option maxHeartbeats 4000000 in
theorem rfloor_en (p q x : Int) (m : Nat) (w : World) (p1 : -2000000000 ≤ p) (p2 : p ≤ 2000000000) (q1 : -1000000000 ≤ q) (q2 : q ≤ 1000000000) (he : x = -(2 * (m : Int))) (hm : m ≤ 21) (m0 : 1 ≤ m) :
    Calls Try.prog 75 #[.int .i64 p, .int .i64 q, .int .i64 x] w fun e w' => e = .returned (.tuple #[.int .i64 (lowN p q x), .bool (zeroN p q x)]) ∧ Grew w w' := by
  have hc : Hid (cN x = 1 ∧ uN x = 2 ^ m ∧ nP p q x = p ∧ nQ p q x = q) := by
    unfold cN uN nP nQ
    subst he
    exact ⟨if_neg (by omega), by rw [if_neg (by omega), show (-((-(2 * (m : Int))) / 2)).toNat = m by omega], if_pos (by omega), if_pos (by omega)⟩
  have HE := hid he
  have x1 : x < 2 := by omega
  have x2 : (x == 1) = false := by simp; omega
  have x3 : -60 ≤ x := by omega
  clear he
  go_enter Try.func75, Try.ntmps75
  go_wp2_with fail
  refine wp_loop_rounds 1 ?_
  simp only [rounds_succ]
  go_wp2_with fail
  go_loop [2, 8] (fun c d => ∃ (j : Nat) (E U : Int), j ≤ m ∧ c = .int .i64 E ∧ d = .int .i64 U ∧ -60 ≤ E ∧ E ≤ 0 ∧ E = -(2 * (m : Int)) + 2 * (j : Int) ∧ 1 ≤ U ∧ U ≤ 2097152 ∧ Hid (U = 2 ^ j)) (fun c _ => (-intOf c).toNat)
  case atStart => exact ⟨0, x, 1, by omega, rfl, rfl, x3, by rw [HE.out]; omega, by rw [HE.out]; omega, by omega, by omega, rfl⟩
  case round =>
    obtain ⟨j, E, U, hj, rfl, rfl, hE60, hE0, hE, u1, u2, hU⟩ := hrel
    clear x1 x2 x3
    by_cases hlt : j < m
    · have e1 : E ≤ -2 := by omega
      have HE2 := hid hE
      obtain ⟨k1, k2⟩ := two_bd (m := j + 1) (by omega)
      have a1 : U * 2 = 2 ^ (j + 1) := by rw [hU.out, Int.pow_succ]
      rw [← a1] at k1 k2
      have A1 := hid a1
      clear hE a1
      go_wp2_with fail
      go_round
      case rel => exact ⟨j + 1, E + 2, U * 2, by omega, rfl, rfl, by omega, by rw [HE2.out]; omega, by rw [HE2.out]; omega, k1, k2, A1⟩
      case measure => simp [intOf]; omega
    · have hjm : j = m := by omega
      have hHU : Hid (U = 2 ^ (m)) := by unfold Hid; rw [← hjm]; exact hU.out
      obtain rfl : E = 0 := by omega
      clear hE hlt hj hjm hU
      have hH : ∀ lo hi : Int, 0 ≤ sgn (p - lo * U) q → sgn (p - hi * U) q < 0 → Hid (Halving p q x p q U lo hi) := fun lo hi a b => by
        obtain ⟨c1, c2, c3, c4⟩ := hc.out
        exact ⟨⟨by rw [c1, c3, Int.one_mul], by rw [c1, c4, Int.one_mul], by rw [c2]; exact hHU.out⟩, a, b⟩
      have HH := hid hH
      have HFD := hid (far_div (u := U) (by omega))
      obtain ⟨D0, hD0⟩ : ∃ D : Int, (p + 2 * q) / U = D := ⟨_, rfl⟩
      obtain ⟨_, _⟩ := div_bd (u := U) (T := p + 2 * q) (D := D0) (by omega) (by omega) (by omega) hD0
      have HD0 := hid hD0
      obtain ⟨D1, hD1⟩ : ∃ D : Int, (-p + 2 * q) / U = D := ⟨_, rfl⟩
      obtain ⟨_, _⟩ := div_bd (u := U) (T := -p + 2 * q) (D := D1) (by omega) (by omega) (by omega) hD1
      have HD1 := hid hD1
      obtain ⟨D2, hD2⟩ : ∃ D : Int, (p + 2 * -q) / U = D := ⟨_, rfl⟩
      obtain ⟨_, _⟩ := div_bd (u := U) (T := p + 2 * -q) (D := D2) (by omega) (by omega) (by omega) hD2
      have HD2 := hid hD2
      obtain ⟨D3, hD3⟩ : ∃ D : Int, (-p + 2 * -q) / U = D := ⟨_, rfl⟩
      obtain ⟨_, _⟩ := div_bd (u := U) (T := -p + 2 * -q) (D := D3) (by omega) (by omega) (by omega) hD3
      have HD3 := hid hD3
      clear hH hE60
      go_wp2_with fail
      all_goals
        go_loopw [10, 11] (fun d h wr => ∃ lo hi : Int, d = .int .i64 lo ∧ h = .int .i64 hi ∧ lo < hi ∧ -3400000000000000000 ≤ lo ∧ hi ≤ 3400000000000000000 ∧ -3400000000000000000 ≤ lo * U ∧ hi * U ≤ 3400000000000000000 ∧ Hid (Halving p q x p q U lo hi) ∧ Grew w wr) (fun d h _ => (intOf h - intOf d).toNat)
        case atStart => first | (refine ⟨_, _, rfl, rfl, ?_⟩; rw [IntWalk.wrap64_in (D0 + 2) (by omega), IntWalk.wrap64_in (-(D0 + 2)) (by omega)]; exact ⟨(far_start (T := p + 2 * q) (D := D0) HD0.out (by omega) (by omega) (by omega) (by omega) (by omega) (by omega) (by omega) (by omega) (by omega) HH.out).1, (far_start (T := p + 2 * q) (D := D0) HD0.out (by omega) (by omega) (by omega) (by omega) (by omega) (by omega) (by omega) (by omega) (by omega) HH.out).2.1, (far_start (T := p + 2 * q) (D := D0) HD0.out (by omega) (by omega) (by omega) (by omega) (by omega) (by omega) (by omega) (by omega) (by omega) HH.out).2.2.1, (far_start (T := p + 2 * q) (D := D0) HD0.out (by omega) (by omega) (by omega) (by omega) (by omega) (by omega) (by omega) (by omega) (by omega) HH.out).2.2.2.1, (far_start (T := p + 2 * q) (D := D0) HD0.out (by omega) (by omega) (by omega) (by omega) (by omega) (by omega) (by omega) (by omega) (by omega) HH.out).2.2.2.2.1, (far_start (T := p + 2 * q) (D := D0) HD0.out (by omega) (by omega) (by omega) (by omega) (by omega) (by omega) (by omega) (by omega) (by omega) HH.out).2.2.2.2.2, (by repeat (first | exact Grew.refl _ | refine Grew.drewN ?_ _ | refine Grew.grow ?_ _ | refine Grew.alloc ?_ _ | refine Grew.drew ?_))⟩) | (refine ⟨_, _, rfl, rfl, ?_⟩; rw [IntWalk.wrap64_in (D1 + 2) (by omega), IntWalk.wrap64_in (-(D1 + 2)) (by omega)]; exact ⟨(far_start (T := -p + 2 * q) (D := D1) HD1.out (by omega) (by omega) (by omega) (by omega) (by omega) (by omega) (by omega) (by omega) (by omega) HH.out).1, (far_start (T := -p + 2 * q) (D := D1) HD1.out (by omega) (by omega) (by omega) (by omega) (by omega) (by omega) (by omega) (by omega) (by omega) HH.out).2.1, (far_start (T := -p + 2 * q) (D := D1) HD1.out (by omega) (by omega) (by omega) (by omega) (by omega) (by omega) (by omega) (by omega) (by omega) HH.out).2.2.1, (far_start (T := -p + 2 * q) (D := D1) HD1.out (by omega) (by omega) (by omega) (by omega) (by omega) (by omega) (by omega) (by omega) (by omega) HH.out).2.2.2.1, (far_start (T := -p + 2 * q) (D := D1) HD1.out (by omega) (by omega) (by omega) (by omega) (by omega) (by omega) (by omega) (by omega) (by omega) HH.out).2.2.2.2.1, (far_start (T := -p + 2 * q) (D := D1) HD1.out (by omega) (by omega) (by omega) (by omega) (by omega) (by omega) (by omega) (by omega) (by omega) HH.out).2.2.2.2.2, (by repeat (first | exact Grew.refl _ | refine Grew.drewN ?_ _ | refine Grew.grow ?_ _ | refine Grew.alloc ?_ _ | refine Grew.drew ?_))⟩) | (refine ⟨_, _, rfl, rfl, ?_⟩; rw [IntWalk.wrap64_in (D2 + 2) (by omega), IntWalk.wrap64_in (-(D2 + 2)) (by omega)]; exact ⟨(far_start (T := p + 2 * -q) (D := D2) HD2.out (by omega) (by omega) (by omega) (by omega) (by omega) (by omega) (by omega) (by omega) (by omega) HH.out).1, (far_start (T := p + 2 * -q) (D := D2) HD2.out (by omega) (by omega) (by omega) (by omega) (by omega) (by omega) (by omega) (by omega) (by omega) HH.out).2.1, (far_start (T := p + 2 * -q) (D := D2) HD2.out (by omega) (by omega) (by omega) (by omega) (by omega) (by omega) (by omega) (by omega) (by omega) HH.out).2.2.1, (far_start (T := p + 2 * -q) (D := D2) HD2.out (by omega) (by omega) (by omega) (by omega) (by omega) (by omega) (by omega) (by omega) (by omega) HH.out).2.2.2.1, (far_start (T := p + 2 * -q) (D := D2) HD2.out (by omega) (by omega) (by omega) (by omega) (by omega) (by omega) (by omega) (by omega) (by omega) HH.out).2.2.2.2.1, (far_start (T := p + 2 * -q) (D := D2) HD2.out (by omega) (by omega) (by omega) (by omega) (by omega) (by omega) (by omega) (by omega) (by omega) HH.out).2.2.2.2.2, (by repeat (first | exact Grew.refl _ | refine Grew.drewN ?_ _ | refine Grew.grow ?_ _ | refine Grew.alloc ?_ _ | refine Grew.drew ?_))⟩) | (refine ⟨_, _, rfl, rfl, ?_⟩; rw [IntWalk.wrap64_in (D3 + 2) (by omega), IntWalk.wrap64_in (-(D3 + 2)) (by omega)]; exact ⟨(far_start (T := -p + 2 * -q) (D := D3) HD3.out (by omega) (by omega) (by omega) (by omega) (by omega) (by omega) (by omega) (by omega) (by omega) HH.out).1, (far_start (T := -p + 2 * -q) (D := D3) HD3.out (by omega) (by omega) (by omega) (by omega) (by omega) (by omega) (by omega) (by omega) (by omega) HH.out).2.1, (far_start (T := -p + 2 * -q) (D := D3) HD3.out (by omega) (by omega) (by omega) (by omega) (by omega) (by omega) (by omega) (by omega) (by omega) HH.out).2.2.1, (far_start (T := -p + 2 * -q) (D := D3) HD3.out (by omega) (by omega) (by omega) (by omega) (by omega) (by omega) (by omega) (by omega) (by omega) HH.out).2.2.2.1, (far_start (T := -p + 2 * -q) (D := D3) HD3.out (by omega) (by omega) (by omega) (by omega) (by omega) (by omega) (by omega) (by omega) (by omega) HH.out).2.2.2.2.1, (far_start (T := -p + 2 * -q) (D := D3) HD3.out (by omega) (by omega) (by omega) (by omega) (by omega) (by omega) (by omega) (by omega) (by omega) HH.out).2.2.2.2.2, (by repeat (first | exact Grew.refl _ | refine Grew.drewN ?_ _ | refine Grew.grow ?_ _ | refine Grew.alloc ?_ _ | refine Grew.drew ?_))⟩)
        case round =>
          obtain ⟨lo, hi, rfl, rfl, hlt, l1, l2, l3, l4, hH, gg, nn, rfl⟩ := hrel
          by_cases hgt : 1 < hi - lo
          · obtain ⟨mid, hmid⟩ : ∃ mid : Int, lo + (hi - lo) / 2 = mid := ⟨_, rfl⟩
            have m1 : lo < mid := by omega
            have m2 : mid < hi := by omega
            have m3 : lo * U ≤ mid * U := Int.mul_le_mul_of_nonneg_right (by omega) (by omega)
            have m4 : mid * U ≤ hi * U := Int.mul_le_mul_of_nonneg_right (by omega) (by omega)
            have HS := hid fun w => side_any (p - mid * U) q w (by omega) (by omega) (by omega) (by omega)
            have hv : 0 ≤ sgn (p - mid * U) q ∨ sgn (p - mid * U) q < 0 := by omega
            have hup : Hid (0 ≤ sgn (p - mid * U) q → Halving p q x p q U mid hi) := fun h => ⟨hH.out.1, h, hH.out.2.2⟩
            have hdn : Hid (sgn (p - mid * U) q < 0 → Halving p q x p q U lo mid) := fun h => ⟨hH.out.1, hH.out.2.1, h⟩
            generalize sgn (p - mid * U) q = v at *
            rcases hv with hv | hv
            all_goals
              go_wp2_with fail
              refine (HS.out _).mono ?_
              rintro e w' ⟨rfl, g1, n1, rfl⟩
              go_wp2_with fail
              go_roundw
              case rel =>
                first
                  | exact ⟨mid, hi, rfl, rfl, m2, by omega, l2, by omega, l4, hup.out hv, (by repeat (first | exact Grew.refl _ | refine Grew.drewN ?_ _ | refine Grew.grow ?_ _ | refine Grew.alloc ?_ _ | refine Grew.drew ?_))⟩
                  | exact ⟨lo, mid, rfl, rfl, m1, l1, by omega, l3, by omega, hdn.out hv, (by repeat (first | exact Grew.refl _ | refine Grew.drewN ?_ _ | refine Grew.grow ?_ _ | refine Grew.alloc ?_ _ | refine Grew.drew ?_))⟩
              case measure => simp [intOf]; omega
          · obtain rfl : hi = lo + 1 := by omega
            have l5 : lo * U ≤ (lo + 1) * U := Int.mul_le_mul_of_nonneg_right (by omega) (by omega)
            have HS := hid fun w => side_any (p - lo * U) q w (by omega) (by omega) (by omega) (by omega)
            obtain ⟨f1, f2⟩ := hH.out.fin
            generalize sgn (p - lo * U) q = v at *
            have F1 := hid f1
            have F2 := hid f2
            clear f1 f2 hH hgt
            go_wp2_with fail
            refine (HS.out _).mono ?_
            rintro e w' ⟨rfl, g1, n1, rfl⟩
            go_wp2_with fail
            go_ret2
            exact ⟨by rw [F1.out, F2.out]; rfl, (by repeat (first | exact Grew.refl _ | refine Grew.drewN ?_ _ | refine Grew.grow ?_ _ | refine Grew.alloc ?_ _ | refine Grew.drew ?_))⟩

set_option maxHeartbeats 4000000 in
theorem rfloor_on (p q x : Int) (m : Nat) (w : World) (p1 : -2000000000 ≤ p) (p2 : p ≤ 2000000000) (q1 : -1000000000 ≤ q) (q2 : q ≤ 1000000000) (he : x = -(2 * (m : Int)) + 1) (hm : m ≤ 21) (m0 : 1 ≤ m) :
    Calls Try.prog 75 #[.int .i64 p, .int .i64 q, .int .i64 x] w fun e w' => e = .returned (.tuple #[.int .i64 (lowN p q x), .bool (zeroN p q x)]) ∧ Grew w w' := by
  have hc : Hid (cN x = 1 ∧ uN x = 2 ^ m ∧ nP p q x = 2 * q ∧ nQ p q x = p) := by
    unfold cN uN nP nQ
    subst he
    exact ⟨if_neg (by omega), by rw [if_neg (by omega), show (-((-(2 * (m : Int)) + 1) / 2)).toNat = m by omega], if_neg (by omega), if_neg (by omega)⟩
  have HE := hid he
  have x1 : x < 2 := by omega
  have x2 : (x == 1) = false := by simp; omega
  have x3 : -60 ≤ x := by omega
  clear he
  go_enter Try.func75, Try.ntmps75
  go_wp2_with fail
  refine wp_loop_rounds 1 ?_
  simp only [rounds_succ]
  go_wp2_with fail
  go_loop [2, 8] (fun c d => ∃ (j : Nat) (E U : Int), j ≤ m - 1 ∧ c = .int .i64 E ∧ d = .int .i64 U ∧ -60 ≤ E ∧ E ≤ 0 ∧ E = -(2 * (m : Int)) + 1 + 2 * (j : Int) ∧ 1 ≤ U ∧ U ≤ 2097152 ∧ Hid (U = 2 ^ j)) (fun c _ => (-intOf c).toNat)
  case atStart => exact ⟨0, x, 1, by omega, rfl, rfl, x3, by rw [HE.out]; omega, by rw [HE.out]; omega, by omega, by omega, rfl⟩
  case round =>
    obtain ⟨j, E, U, hj, rfl, rfl, hE60, hE0, hE, u1, u2, hU⟩ := hrel
    clear x1 x2 x3
    by_cases hlt : j < m - 1
    · have e1 : E ≤ -2 := by omega
      have HE2 := hid hE
      obtain ⟨k1, k2⟩ := two_bd (m := j + 1) (by omega)
      have a1 : U * 2 = 2 ^ (j + 1) := by rw [hU.out, Int.pow_succ]
      rw [← a1] at k1 k2
      have A1 := hid a1
      clear hE a1
      go_wp2_with fail
      go_round
      case rel => exact ⟨j + 1, E + 2, U * 2, by omega, rfl, rfl, by omega, by rw [HE2.out]; omega, by rw [HE2.out]; omega, k1, k2, A1⟩
      case measure => simp [intOf]; omega
    · have hjm : j = m - 1 := by omega
      have hHU : Hid (U = 2 ^ (m - 1)) := by unfold Hid; rw [← hjm]; exact hU.out
      obtain rfl : E = -1 := by omega
      clear hE hlt hj hjm hU
      obtain ⟨R, hR⟩ : ∃ R : Int, 2 * q = R := ⟨_, rfl⟩
      obtain ⟨V, hV⟩ : ∃ V : Int, U * 2 = V := ⟨_, rfl⟩
      obtain ⟨k1, k2⟩ := two_bd (m := m) (by omega)
      have a1 : V = 2 ^ m := by rw [← hV, hHU.out, ← Int.pow_succ]; congr 1; omega
      rw [← a1] at k1 k2
      have A1 := hid a1
      have A2 := hid hR
      have r1 : -2000000000 ≤ R := by omega
      have r2 : R ≤ 2000000000 := by omega
      have hH : ∀ lo hi : Int, 0 ≤ sgn (R - lo * V) p → sgn (R - hi * V) p < 0 → Hid (Halving p q x R p V lo hi) := fun lo hi a b => by
        obtain ⟨c1, c2, c3, c4⟩ := hc.out
        exact ⟨⟨by rw [c1, c3, Int.one_mul]; exact A2.out.symm, by rw [c1, c4, Int.one_mul], by rw [c2]; exact A1.out⟩, a, b⟩
      clear a1
      have HH := hid hH
      have HFD := hid (far_div (u := V) (by omega))
      obtain ⟨D0, hD0⟩ : ∃ D : Int, (R + 2 * p) / V = D := ⟨_, rfl⟩
      obtain ⟨_, _⟩ := div_bd (u := V) (T := R + 2 * p) (D := D0) (by omega) (by omega) (by omega) hD0
      have HD0 := hid hD0
      obtain ⟨D1, hD1⟩ : ∃ D : Int, (-R + 2 * p) / V = D := ⟨_, rfl⟩
      obtain ⟨_, _⟩ := div_bd (u := V) (T := -R + 2 * p) (D := D1) (by omega) (by omega) (by omega) hD1
      have HD1 := hid hD1
      obtain ⟨D2, hD2⟩ : ∃ D : Int, (R + 2 * -p) / V = D := ⟨_, rfl⟩
      obtain ⟨_, _⟩ := div_bd (u := V) (T := R + 2 * -p) (D := D2) (by omega) (by omega) (by omega) hD2
      have HD2 := hid hD2
      obtain ⟨D3, hD3⟩ : ∃ D : Int, (-R + 2 * -p) / V = D := ⟨_, rfl⟩
      obtain ⟨_, _⟩ := div_bd (u := V) (T := -R + 2 * -p) (D := D3) (by omega) (by omega) (by omega) hD3
      have HD3 := hid hD3
      clear hH hE60
      go_wp2_with fail
      all_goals
        go_loopw [10, 11] (fun d h wr => ∃ lo hi : Int, d = .int .i64 lo ∧ h = .int .i64 hi ∧ lo < hi ∧ -3400000000000000000 ≤ lo ∧ hi ≤ 3400000000000000000 ∧ -3400000000000000000 ≤ lo * V ∧ hi * V ≤ 3400000000000000000 ∧ Hid (Halving p q x R p V lo hi) ∧ Grew w wr) (fun d h _ => (intOf h - intOf d).toNat)
        case atStart => first | (refine ⟨_, _, rfl, rfl, ?_⟩; rw [IntWalk.wrap64_in (D0 + 2) (by omega), IntWalk.wrap64_in (-(D0 + 2)) (by omega)]; exact ⟨(far_start (T := R + 2 * p) (D := D0) HD0.out (by omega) (by omega) (by omega) (by omega) (by omega) (by omega) (by omega) (by omega) (by omega) HH.out).1, (far_start (T := R + 2 * p) (D := D0) HD0.out (by omega) (by omega) (by omega) (by omega) (by omega) (by omega) (by omega) (by omega) (by omega) HH.out).2.1, (far_start (T := R + 2 * p) (D := D0) HD0.out (by omega) (by omega) (by omega) (by omega) (by omega) (by omega) (by omega) (by omega) (by omega) HH.out).2.2.1, (far_start (T := R + 2 * p) (D := D0) HD0.out (by omega) (by omega) (by omega) (by omega) (by omega) (by omega) (by omega) (by omega) (by omega) HH.out).2.2.2.1, (far_start (T := R + 2 * p) (D := D0) HD0.out (by omega) (by omega) (by omega) (by omega) (by omega) (by omega) (by omega) (by omega) (by omega) HH.out).2.2.2.2.1, (far_start (T := R + 2 * p) (D := D0) HD0.out (by omega) (by omega) (by omega) (by omega) (by omega) (by omega) (by omega) (by omega) (by omega) HH.out).2.2.2.2.2, (by repeat (first | exact Grew.refl _ | refine Grew.drewN ?_ _ | refine Grew.grow ?_ _ | refine Grew.alloc ?_ _ | refine Grew.drew ?_))⟩) | (refine ⟨_, _, rfl, rfl, ?_⟩; rw [IntWalk.wrap64_in (D1 + 2) (by omega), IntWalk.wrap64_in (-(D1 + 2)) (by omega)]; exact ⟨(far_start (T := -R + 2 * p) (D := D1) HD1.out (by omega) (by omega) (by omega) (by omega) (by omega) (by omega) (by omega) (by omega) (by omega) HH.out).1, (far_start (T := -R + 2 * p) (D := D1) HD1.out (by omega) (by omega) (by omega) (by omega) (by omega) (by omega) (by omega) (by omega) (by omega) HH.out).2.1, (far_start (T := -R + 2 * p) (D := D1) HD1.out (by omega) (by omega) (by omega) (by omega) (by omega) (by omega) (by omega) (by omega) (by omega) HH.out).2.2.1, (far_start (T := -R + 2 * p) (D := D1) HD1.out (by omega) (by omega) (by omega) (by omega) (by omega) (by omega) (by omega) (by omega) (by omega) HH.out).2.2.2.1, (far_start (T := -R + 2 * p) (D := D1) HD1.out (by omega) (by omega) (by omega) (by omega) (by omega) (by omega) (by omega) (by omega) (by omega) HH.out).2.2.2.2.1, (far_start (T := -R + 2 * p) (D := D1) HD1.out (by omega) (by omega) (by omega) (by omega) (by omega) (by omega) (by omega) (by omega) (by omega) HH.out).2.2.2.2.2, (by repeat (first | exact Grew.refl _ | refine Grew.drewN ?_ _ | refine Grew.grow ?_ _ | refine Grew.alloc ?_ _ | refine Grew.drew ?_))⟩) | (refine ⟨_, _, rfl, rfl, ?_⟩; rw [IntWalk.wrap64_in (D2 + 2) (by omega), IntWalk.wrap64_in (-(D2 + 2)) (by omega)]; exact ⟨(far_start (T := R + 2 * -p) (D := D2) HD2.out (by omega) (by omega) (by omega) (by omega) (by omega) (by omega) (by omega) (by omega) (by omega) HH.out).1, (far_start (T := R + 2 * -p) (D := D2) HD2.out (by omega) (by omega) (by omega) (by omega) (by omega) (by omega) (by omega) (by omega) (by omega) HH.out).2.1, (far_start (T := R + 2 * -p) (D := D2) HD2.out (by omega) (by omega) (by omega) (by omega) (by omega) (by omega) (by omega) (by omega) (by omega) HH.out).2.2.1, (far_start (T := R + 2 * -p) (D := D2) HD2.out (by omega) (by omega) (by omega) (by omega) (by omega) (by omega) (by omega) (by omega) (by omega) HH.out).2.2.2.1, (far_start (T := R + 2 * -p) (D := D2) HD2.out (by omega) (by omega) (by omega) (by omega) (by omega) (by omega) (by omega) (by omega) (by omega) HH.out).2.2.2.2.1, (far_start (T := R + 2 * -p) (D := D2) HD2.out (by omega) (by omega) (by omega) (by omega) (by omega) (by omega) (by omega) (by omega) (by omega) HH.out).2.2.2.2.2, (by repeat (first | exact Grew.refl _ | refine Grew.drewN ?_ _ | refine Grew.grow ?_ _ | refine Grew.alloc ?_ _ | refine Grew.drew ?_))⟩) | (refine ⟨_, _, rfl, rfl, ?_⟩; rw [IntWalk.wrap64_in (D3 + 2) (by omega), IntWalk.wrap64_in (-(D3 + 2)) (by omega)]; exact ⟨(far_start (T := -R + 2 * -p) (D := D3) HD3.out (by omega) (by omega) (by omega) (by omega) (by omega) (by omega) (by omega) (by omega) (by omega) HH.out).1, (far_start (T := -R + 2 * -p) (D := D3) HD3.out (by omega) (by omega) (by omega) (by omega) (by omega) (by omega) (by omega) (by omega) (by omega) HH.out).2.1, (far_start (T := -R + 2 * -p) (D := D3) HD3.out (by omega) (by omega) (by omega) (by omega) (by omega) (by omega) (by omega) (by omega) (by omega) HH.out).2.2.1, (far_start (T := -R + 2 * -p) (D := D3) HD3.out (by omega) (by omega) (by omega) (by omega) (by omega) (by omega) (by omega) (by omega) (by omega) HH.out).2.2.2.1, (far_start (T := -R + 2 * -p) (D := D3) HD3.out (by omega) (by omega) (by omega) (by omega) (by omega) (by omega) (by omega) (by omega) (by omega) HH.out).2.2.2.2.1, (far_start (T := -R + 2 * -p) (D := D3) HD3.out (by omega) (by omega) (by omega) (by omega) (by omega) (by omega) (by omega) (by omega) (by omega) HH.out).2.2.2.2.2, (by repeat (first | exact Grew.refl _ | refine Grew.drewN ?_ _ | refine Grew.grow ?_ _ | refine Grew.alloc ?_ _ | refine Grew.drew ?_))⟩)
        case round =>
          obtain ⟨lo, hi, rfl, rfl, hlt, l1, l2, l3, l4, hH, gg, nn, rfl⟩ := hrel
          by_cases hgt : 1 < hi - lo
          · obtain ⟨mid, hmid⟩ : ∃ mid : Int, lo + (hi - lo) / 2 = mid := ⟨_, rfl⟩
            have m1 : lo < mid := by omega
            have m2 : mid < hi := by omega
            have m3 : lo * V ≤ mid * V := Int.mul_le_mul_of_nonneg_right (by omega) (by omega)
            have m4 : mid * V ≤ hi * V := Int.mul_le_mul_of_nonneg_right (by omega) (by omega)
            have HS := hid fun w => side_any (R - mid * V) p w (by omega) (by omega) (by omega) (by omega)
            have hv : 0 ≤ sgn (R - mid * V) p ∨ sgn (R - mid * V) p < 0 := by omega
            have hup : Hid (0 ≤ sgn (R - mid * V) p → Halving p q x R p V mid hi) := fun h => ⟨hH.out.1, h, hH.out.2.2⟩
            have hdn : Hid (sgn (R - mid * V) p < 0 → Halving p q x R p V lo mid) := fun h => ⟨hH.out.1, hH.out.2.1, h⟩
            generalize sgn (R - mid * V) p = v at *
            rcases hv with hv | hv
            all_goals
              go_wp2_with fail
              refine (HS.out _).mono ?_
              rintro e w' ⟨rfl, g1, n1, rfl⟩
              go_wp2_with fail
              go_roundw
              case rel =>
                first
                  | exact ⟨mid, hi, rfl, rfl, m2, by omega, l2, by omega, l4, hup.out hv, (by repeat (first | exact Grew.refl _ | refine Grew.drewN ?_ _ | refine Grew.grow ?_ _ | refine Grew.alloc ?_ _ | refine Grew.drew ?_))⟩
                  | exact ⟨lo, mid, rfl, rfl, m1, l1, by omega, l3, by omega, hdn.out hv, (by repeat (first | exact Grew.refl _ | refine Grew.drewN ?_ _ | refine Grew.grow ?_ _ | refine Grew.alloc ?_ _ | refine Grew.drew ?_))⟩
              case measure => simp [intOf]; omega
          · obtain rfl : hi = lo + 1 := by omega
            have l5 : lo * V ≤ (lo + 1) * V := Int.mul_le_mul_of_nonneg_right (by omega) (by omega)
            have HS := hid fun w => side_any (R - lo * V) p w (by omega) (by omega) (by omega) (by omega)
            obtain ⟨f1, f2⟩ := hH.out.fin
            generalize sgn (R - lo * V) p = v at *
            have F1 := hid f1
            have F2 := hid f2
            clear f1 f2 hH hgt
            go_wp2_with fail
            refine (HS.out _).mono ?_
            rintro e w' ⟨rfl, g1, n1, rfl⟩
            go_wp2_with fail
            go_ret2
            exact ⟨by rw [F1.out, F2.out]; rfl, (by repeat (first | exact Grew.refl _ | refine Grew.drewN ?_ _ | refine Grew.grow ?_ _ | refine Grew.alloc ?_ _ | refine Grew.drew ?_))⟩

theorem rfloor_any (p q x : Int) (w : World) (p1 : -2000000000 ≤ p) (p2 : p ≤ 2000000000) (q1 : -1000000000 ≤ q) (q2 : q ≤ 1000000000) (x1 : -41 ≤ x) (x2 : x ≤ 59) :
    Calls Try.prog 75 #[.int .i64 p, .int .i64 q, .int .i64 x] w fun e w' => e = .returned (.tuple #[.int .i64 (lowN p q x), .bool (zeroN p q x)]) ∧ Grew w w' := by
  by_cases h0 : 0 ≤ x
  · by_cases h1 : x % 2 = 0
    · exact rfloor_ep p q x (x / 2).toNat w p1 p2 q1 q2 (by omega) (by omega)
    · exact rfloor_op p q x (x / 2).toNat w p1 p2 q1 q2 (by omega) (by omega)
  · by_cases h1 : x % 2 = 0
    · exact rfloor_en p q x (-x / 2).toNat w p1 p2 q1 q2 (by omega) (by omega) (by omega)
    · exact rfloor_on p q x ((-x + 1) / 2).toNat w p1 p2 q1 q2 (by omega) (by omega) (by omega)

theorem hiN_zero {p q e : Int} (h : zeroN p q e = true) : hiN p q e = lowN p q e := by
  rw [hiN_eq, if_pos (by simpa [zeroN] using h)]
theorem hiN_more {p q e : Int} (h : zeroN p q e = false) : hiN p q e = lowN p q e + 1 := by
  rw [hiN_eq, if_neg (by simpa [zeroN] using h)]

set_option maxHeartbeats 800000 in
theorem rspan_any (p q x : Int) (w : World) (p1 : -2000000000 ≤ p) (p2 : p ≤ 2000000000) (q1 : -1000000000 ≤ q) (q2 : q ≤ 1000000000) (x1 : -41 ≤ x) (x2 : x ≤ 59) (b1 : -4611686018427387905 ≤ lowN p q x) (b2 : lowN p q x ≤ 4611686018427387904) :
    Calls Try.prog 68 #[.int .i64 p, .int .i64 q, .int .i64 x] w fun e w' => e = .returned (.agg #[.int .i64 (lowN p q x), .int .i64 (hiN p q x)]) ∧ Grew w w' := by
  have HF := hid fun w => rfloor_any p q x w p1 p2 q1 q2 x1 x2
  by_cases hz : zeroN p q x = true
  · have He := hid (hiN_zero hz)
    rw [hz] at HF
    generalize lowN p q x = v at *
    clear hz
    go_enter Try.func68, Try.ntmps68
    go_wp2_with fail
    refine (HF.out _).mono ?_
    rintro e w' ⟨rfl, g, n, rfl⟩
    go_wp2_with fail
    exact bodyPost_ret (v := .agg #[.int .i64 v, .int .i64 v]) (by simp [results, Try.results68, go_sem]) rfl ⟨by rw [He.out], (by repeat (first | exact Grew.refl _ | refine Grew.drewN ?_ _ | refine Grew.grow ?_ _ | refine Grew.alloc ?_ _ | refine Grew.drew ?_))⟩
  · have hz' : zeroN p q x = false := by simpa using hz
    have He := hid (hiN_more hz')
    rw [hz'] at HF
    generalize lowN p q x = v at *
    clear hz hz'
    go_enter Try.func68, Try.ntmps68
    go_wp2_with fail
    refine (HF.out _).mono ?_
    rintro e w' ⟨rfl, g, n, rfl⟩
    go_wp2_with fail
    exact bodyPost_ret (v := .agg #[.int .i64 v, .int .i64 (v + 1)]) (by simp [results, Try.results68, go_sem]) rfl ⟨by rw [He.out], (by repeat (first | exact Grew.refl _ | refine Grew.drewN ?_ _ | refine Grew.grow ?_ _ | refine Grew.alloc ?_ _ | refine Grew.drew ?_))⟩

end Go.Proofs.Ytmphmfhmcgpjcaa
