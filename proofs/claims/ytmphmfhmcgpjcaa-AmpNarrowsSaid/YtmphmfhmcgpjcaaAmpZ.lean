/- The reference's floor. Conditions: within a word. -/
import Derived.Test.YtmphmfhmcgpjcaaAmpX
import Derived.Test.YtmphmfhmcgpjcaaAmpT
namespace Go.Proofs.Ytmphmfhmcgpjcaa
open Go Go.RowKit Amp

theorem pos_big {a b : Int} (ha : 0 < a) (hb1 : -a < 2 * b) (hb2 : 2 * b < a) : Pos a b := by
  refine .inl ⟨ha, ?_⟩
  have h7 : (2 * b) * (2 * b) < a * a := by
    rcases Int.lt_or_le b 0 with hb | hb
    · have := Int.mul_lt_mul_of_pos_right (show -(2 * b) < a by omega) ha
      have h8 : -(2 * b) * -(2 * b) ≤ -(2 * b) * a := Int.mul_le_mul_of_nonneg_left (by omega) (by omega)
      rw [neg_sq] at h8
      omega
    · have := Int.mul_lt_mul_of_pos_right hb2 ha
      have h8 : (2 * b) * (2 * b) ≤ (2 * b) * a := Int.mul_le_mul_of_nonneg_left (by omega) (by omega)
      omega
  have h9 : (2 * b) * (2 * b) = 4 * (b * b) := by grind
  have := sq_nonneg b
  omega
theorem far_lo {P Q u lo : Int} (h0 : lo * u < P) (h1 : lo * u - P < 2 * Q) (h2 : 2 * Q < P - lo * u) : 0 ≤ sgn (P - lo * u) Q := by
  rw [sgn_pos (pos_big (by omega) (by omega) (by omega))]; decide
theorem far_hi {P Q u hi : Int} (h0 : P < hi * u) (h1 : P - hi * u < 2 * Q) (h2 : 2 * Q < hi * u - P) : sgn (P - hi * u) Q < 0 := by
  rw [sgn_negp (pos_big (by omega) (by omega) (by omega))]; decide
theorem far_div {u : Int} (hu : 0 < u) (T : Int) (hT : 0 ≤ T) : T < (T / u + 2) * u ∧ (T / u + 2) * u ≤ T + 2 * u ∧ 2 ≤ T / u + 2 ∧ T / u ≤ T := by
  have e := Int.mul_ediv_add_emod T u
  have r0 := Int.emod_nonneg T (show u ≠ 0 by omega)
  have r1 := Int.emod_lt_of_pos T hu
  have d0 : 0 ≤ T / u := Int.ediv_nonneg hT (by omega)
  have d1 : T / u ≤ T := Int.ediv_le_self _ hT
  generalize T / u = d at *
  have e1 : (d + 2) * u = u * d + 2 * u := by grind
  rw [e1]
  omega
def zeroN (p q e : Int) : Bool := sgn (cN e * nP p q e - lowN p q e * uN e) (cN e * nQ p q e) == 0
theorem dbl_bd {x : Int} {m : Nat} (h1 : -2000000000 ≤ x) (h2 : x ≤ 2000000000) (hm : m ≤ 29) : (-1073741824000000000 ≤ 2 ^ m * x ∧ 2 ^ m * x ≤ 1073741824000000000) := by
  have hp : (2 : Int) ^ m ≤ 536870912 := by
    have h1 : (2 : Nat) ^ m ≤ 2 ^ 29 := Nat.pow_le_pow_right (by decide) hm
    have h2 : ((2 ^ m : Nat) : Int) ≤ ((2 ^ 29 : Nat) : Int) := Int.ofNat_le.2 h1
    simpa using h2
  have h0 := two_pos m
  have a1 : 2 ^ m * x ≤ 2 ^ m * 2000000000 := Int.mul_le_mul_of_nonneg_left h2 (by omega)
  have a2 : 2 ^ m * -2000000000 ≤ 2 ^ m * x := Int.mul_le_mul_of_nonneg_left h1 (by omega)
  omega
theorem two_bd {m : Nat} (hm : m ≤ 21) : (1 : Int) ≤ 2 ^ m ∧ (2 : Int) ^ m ≤ 2097152 := by
  have h1 : (2 : Nat) ^ m ≤ 2 ^ 21 := Nat.pow_le_pow_right (by decide) hm
  have h2 : ((2 ^ m : Nat) : Int) ≤ ((2 ^ 21 : Nat) : Int) := Int.ofNat_le.2 h1
  have := two_pos m
  exact ⟨by omega, by simpa using h2⟩
/-- What holds of the halving. -/
def Halving (p q x P Q u lo hi : Int) : Prop := (P = cN x * nP p q x ∧ Q = cN x * nQ p q x ∧ u = uN x) ∧ 0 ≤ sgn (P - lo * u) Q ∧ sgn (P - hi * u) Q < 0
theorem Halving.fin {p q x P Q u lo : Int} (h : Halving p q x P Q u lo (lo + 1)) : lowN p q x = lo ∧ zeroN p q x = (sgn (P - lo * u) Q == 0) := by
  obtain ⟨⟨rfl, rfl, rfl⟩, h1, h2⟩ := h
  have e : lowN p q x = lo := (lowN_at p q x).uniq (uN_pos x) ⟨h1, h2⟩
  refine ⟨e, ?_⟩
  unfold zeroN
  rw [e]

set_option maxHeartbeats 4000000 in
theorem rfloor_ep (p q x : Int) (m : Nat) (w : World) (p1 : -2000000000 ≤ p) (p2 : p ≤ 2000000000) (q1 : -1000000000 ≤ q) (q2 : q ≤ 1000000000) (he : x = 2 * (m : Int)) (hm : m ≤ 29) :
    Calls Try.prog 75 #[.int .i64 p, .int .i64 q, .int .i64 x] w fun e w' => e = .returned (.tuple #[.int .i64 (lowN p q x), .bool (zeroN p q x)]) ∧ Grew w w' := by
  have hc : Hid (cN x = 2 ^ m ∧ uN x = 1 ∧ nP p q x = p ∧ nQ p q x = q) := by
    unfold cN uN nP nQ
    subst he
    exact ⟨by rw [if_pos (by omega), show ((2 * (m : Int)) / 2).toNat = m by omega], if_pos (by omega), if_pos (by omega), if_pos (by omega)⟩
  have HE := hid he
  clear he
  go_enter Try.func75, Try.ntmps75
  go_wp2_with fail
  go_loop [0, 1, 2] (fun a b c => ∃ (j : Nat) (P Q E : Int), j ≤ m ∧ a = .int .i64 P ∧ b = .int .i64 Q ∧ c = .int .i64 E ∧ E ≤ 60 ∧ E = 2 * (m : Int) - 2 * (j : Int) ∧ -1073741824000000000 ≤ P ∧ P ≤ 1073741824000000000 ∧ -1073741824000000000 ≤ Q ∧ Q ≤ 1073741824000000000 ∧ Hid (P = 2 ^ j * p ∧ Q = 2 ^ j * q)) (fun _ _ c => (intOf c).toNat)
  case atStart => exact ⟨0, p, q, x, by omega, rfl, rfl, rfl, by rw [HE.out]; omega, by rw [HE.out]; omega, by omega, by omega, by omega, by omega, by simp, by simp⟩
  case round =>
    obtain ⟨j, P, Q, E, hj, rfl, rfl, rfl, hE60, hE, i1, i2, i3, i4, hPQ⟩ := hrel
    by_cases hlt : j < m
    · have e1 : 2 ≤ E := by omega
      have HE2 := hid hE
      clear hE
      go_wp2_with fail
      go_round
      case rel =>
        obtain ⟨k1, k2⟩ := dbl_bd (m := j + 1) p1 p2 (by omega)
        obtain ⟨k3, k4⟩ := dbl_bd (x := q) (m := j + 1) (by omega) (by omega) (by omega)
        have a1 : 2 * P = 2 ^ (j + 1) * p := by rw [hPQ.out.1, Int.pow_succ]; grind
        have a2 : 2 * Q = 2 ^ (j + 1) * q := by rw [hPQ.out.2, Int.pow_succ]; grind
        rw [← a1] at k1 k2
        rw [← a2] at k3 k4
        exact ⟨j + 1, 2 * P, 2 * Q, E - 2, by omega, rfl, rfl, rfl, by omega, by rw [HE2.out]; omega, k1, k2, k3, k4, a1, a2⟩
      case measure => simp [intOf]; omega
    · obtain rfl : j = m := by omega
      obtain rfl : E = 0 := by omega
      have hH : ∀ lo hi : Int, 0 ≤ sgn (P - lo * 1) Q → sgn (P - hi * 1) Q < 0 → Hid (Halving p q x P Q 1 lo hi) := fun lo hi a b => by
        obtain ⟨c1, c2, c3, c4⟩ := hc.out
        obtain ⟨d1, d2⟩ := hPQ.out
        exact ⟨⟨by rw [c1, c3, d1], by rw [c1, c4, d2], c2.symm⟩, a, b⟩
      have HH := hid hH
      clear hE hlt hH hE60 hj
      go_wp2_with fail
      refine wp_loop_rounds 1 ?_
      simp only [rounds_succ]
      go_wp2_with fail
      all_goals
        go_loopw [10, 11] (fun d h wr => ∃ lo hi : Int, d = .int .i64 lo ∧ h = .int .i64 hi ∧ lo < hi ∧ -3400000000000000000 ≤ lo ∧ hi ≤ 3400000000000000000 ∧ -3400000000000000000 ≤ lo ∧ hi ≤ 3400000000000000000 ∧ Hid (Halving p q x P Q 1 lo hi) ∧ Grew w wr) (fun d h _ => (intOf h - intOf d).toNat)
        case atStart => exact ⟨_, _, rfl, rfl, by omega, by omega, by omega, by omega, by omega, HH.out _ _ (far_lo (by omega) (by omega) (by omega)) (far_hi (by omega) (by omega) (by omega)), (by repeat (first | exact Grew.refl _ | refine Grew.drewN ?_ _ | refine Grew.grow ?_ _ | refine Grew.alloc ?_ _ | refine Grew.drew ?_))⟩
        case round =>
          obtain ⟨lo, hi, rfl, rfl, hlt, l1, l2, l3, l4, hH, gg, nn, rfl⟩ := hrel
          by_cases hgt : 1 < hi - lo
          · obtain ⟨mid, hmid⟩ : ∃ mid : Int, lo + (hi - lo) / 2 = mid := ⟨_, rfl⟩
            have m1 : lo < mid := by omega
            have m2 : mid < hi := by omega
            have m3 : lo ≤ mid := by omega
            have m4 : mid ≤ hi := by omega
            have HS := hid fun w => side_any (P - mid) Q w (by omega) (by omega) (by omega) (by omega)
            have hv : 0 ≤ sgn (P - mid) Q ∨ sgn (P - mid) Q < 0 := by omega
            have hup : Hid (0 ≤ sgn (P - mid) Q → Halving p q x P Q 1 mid hi) := fun h => ⟨hH.out.1, by rw [Int.mul_one]; exact h, hH.out.2.2⟩
            have hdn : Hid (sgn (P - mid) Q < 0 → Halving p q x P Q 1 lo mid) := fun h => ⟨hH.out.1, hH.out.2.1, by rw [Int.mul_one]; exact h⟩
            generalize sgn (P - mid) Q = v at *
            rcases hv with hv | hv
            all_goals
              go_wp2_with fail
              refine (HS.out _).mono ?_
              rintro e w' ⟨rfl, g1, n1, rfl⟩
              go_wp2_with fail
              go_roundw
              case rel =>
                first
                  | exact ⟨mid, hi, rfl, rfl, m2, by omega, l2, by omega, l4, hup.out hv, (by repeat (first | exact Grew.refl _ | refine Grew.drewN ?_ _ | refine Grew.grow ?_ _ | refine Grew.alloc ?_ _ | refine Grew.drew ?_))⟩
                  | exact ⟨lo, mid, rfl, rfl, m1, l1, by omega, l3, by omega, hdn.out hv, (by repeat (first | exact Grew.refl _ | refine Grew.drewN ?_ _ | refine Grew.grow ?_ _ | refine Grew.alloc ?_ _ | refine Grew.drew ?_))⟩
              case measure => simp [intOf]; omega
          · obtain rfl : hi = lo + 1 := by omega
            have l5 : lo ≤ (lo + 1) := by omega
            have HS := hid fun w => side_any (P - lo) Q w (by omega) (by omega) (by omega) (by omega)
            obtain ⟨f1, f2⟩ := hH.out.fin
            rw [Int.mul_one] at f2
            generalize sgn (P - lo) Q = v at *
            have F1 := hid f1
            have F2 := hid f2
            clear f1 f2 hH hgt l4 l5
            go_wp2_with fail
            refine (HS.out _).mono ?_
            rintro e w' ⟨rfl, g1, n1, rfl⟩
            go_wp2_with fail
            go_ret2
            exact ⟨by rw [F1.out, F2.out]; rfl, (by repeat (first | exact Grew.refl _ | refine Grew.drewN ?_ _ | refine Grew.grow ?_ _ | refine Grew.alloc ?_ _ | refine Grew.drew ?_))⟩

set_option maxHeartbeats 4000000 in
theorem rfloor_op (p q x : Int) (m : Nat) (w : World) (p1 : -2000000000 ≤ p) (p2 : p ≤ 2000000000) (q1 : -1000000000 ≤ q) (q2 : q ≤ 1000000000) (he : x = 2 * (m : Int) + 1) (hm : m ≤ 29) :
    Calls Try.prog 75 #[.int .i64 p, .int .i64 q, .int .i64 x] w fun e w' => e = .returned (.tuple #[.int .i64 (lowN p q x), .bool (zeroN p q x)]) ∧ Grew w w' := by
  have hc : Hid (cN x = 2 ^ m ∧ uN x = 1 ∧ nP p q x = 2 * q ∧ nQ p q x = p) := by
    unfold cN uN nP nQ
    subst he
    exact ⟨by rw [if_pos (by omega), show ((2 * (m : Int) + 1) / 2).toNat = m by omega], if_pos (by omega), if_neg (by omega), if_neg (by omega)⟩
  have HE := hid he
  clear he
  go_enter Try.func75, Try.ntmps75
  go_wp2_with fail
  go_loop [0, 1, 2] (fun a b c => ∃ (j : Nat) (P Q E : Int), j ≤ m ∧ a = .int .i64 P ∧ b = .int .i64 Q ∧ c = .int .i64 E ∧ E ≤ 60 ∧ E = 2 * (m : Int) + 1 - 2 * (j : Int) ∧ -1073741824000000000 ≤ P ∧ P ≤ 1073741824000000000 ∧ -1073741824000000000 ≤ Q ∧ Q ≤ 1073741824000000000 ∧ Hid (P = 2 ^ j * p ∧ Q = 2 ^ j * q)) (fun _ _ c => (intOf c).toNat)
  case atStart => exact ⟨0, p, q, x, by omega, rfl, rfl, rfl, by rw [HE.out]; omega, by rw [HE.out]; omega, by omega, by omega, by omega, by omega, by simp, by simp⟩
  case round =>
    obtain ⟨j, P, Q, E, hj, rfl, rfl, rfl, hE60, hE, i1, i2, i3, i4, hPQ⟩ := hrel
    by_cases hlt : j < m
    · have e1 : 2 ≤ E := by omega
      have HE2 := hid hE
      clear hE
      go_wp2_with fail
      go_round
      case rel =>
        obtain ⟨k1, k2⟩ := dbl_bd (m := j + 1) p1 p2 (by omega)
        obtain ⟨k3, k4⟩ := dbl_bd (x := q) (m := j + 1) (by omega) (by omega) (by omega)
        have a1 : 2 * P = 2 ^ (j + 1) * p := by rw [hPQ.out.1, Int.pow_succ]; grind
        have a2 : 2 * Q = 2 ^ (j + 1) * q := by rw [hPQ.out.2, Int.pow_succ]; grind
        rw [← a1] at k1 k2
        rw [← a2] at k3 k4
        exact ⟨j + 1, 2 * P, 2 * Q, E - 2, by omega, rfl, rfl, rfl, by omega, by rw [HE2.out]; omega, k1, k2, k3, k4, a1, a2⟩
      case measure => simp [intOf]; omega
    · obtain rfl : j = m := by omega
      obtain rfl : E = 1 := by omega
      obtain ⟨k1, k2⟩ := dbl_bd (x := 2 * q) (m := j) (by omega) (by omega) hm
      have a1 : 2 * Q = 2 ^ j * (2 * q) := by rw [hPQ.out.2]; grind
      rw [← a1] at k1 k2
      have A1 := hid a1
      clear a1
      obtain ⟨R, hR⟩ : ∃ R : Int, 2 * Q = R := ⟨_, rfl⟩
      rw [hR] at k1 k2 A1
      have hH : ∀ lo hi : Int, 0 ≤ sgn (R - lo * 1) P → sgn (R - hi * 1) P < 0 → Hid (Halving p q x R P 1 lo hi) := fun lo hi a b => by
        obtain ⟨c1, c2, c3, c4⟩ := hc.out
        obtain ⟨d1, d2⟩ := hPQ.out
        exact ⟨⟨by rw [c1, c3, A1.out], by rw [c1, c4, d1], c2.symm⟩, a, b⟩
      have HH := hid hH
      clear hE hlt hH hE60 hj
      go_wp2_with fail
      refine wp_loop_rounds 1 ?_
      simp only [rounds_succ]
      go_wp2_with fail
      all_goals
        go_loopw [10, 11] (fun d h wr => ∃ lo hi : Int, d = .int .i64 lo ∧ h = .int .i64 hi ∧ lo < hi ∧ -3400000000000000000 ≤ lo ∧ hi ≤ 3400000000000000000 ∧ -3400000000000000000 ≤ lo ∧ hi ≤ 3400000000000000000 ∧ Hid (Halving p q x R P 1 lo hi) ∧ Grew w wr) (fun d h _ => (intOf h - intOf d).toNat)
        case atStart => exact ⟨_, _, rfl, rfl, by omega, by omega, by omega, by omega, by omega, HH.out _ _ (far_lo (by omega) (by omega) (by omega)) (far_hi (by omega) (by omega) (by omega)), (by repeat (first | exact Grew.refl _ | refine Grew.drewN ?_ _ | refine Grew.grow ?_ _ | refine Grew.alloc ?_ _ | refine Grew.drew ?_))⟩
        case round =>
          obtain ⟨lo, hi, rfl, rfl, hlt, l1, l2, l3, l4, hH, gg, nn, rfl⟩ := hrel
          by_cases hgt : 1 < hi - lo
          · obtain ⟨mid, hmid⟩ : ∃ mid : Int, lo + (hi - lo) / 2 = mid := ⟨_, rfl⟩
            have m1 : lo < mid := by omega
            have m2 : mid < hi := by omega
            have m3 : lo ≤ mid := by omega
            have m4 : mid ≤ hi := by omega
            have HS := hid fun w => side_any (R - mid) P w (by omega) (by omega) (by omega) (by omega)
            have hv : 0 ≤ sgn (R - mid) P ∨ sgn (R - mid) P < 0 := by omega
            have hup : Hid (0 ≤ sgn (R - mid) P → Halving p q x R P 1 mid hi) := fun h => ⟨hH.out.1, by rw [Int.mul_one]; exact h, hH.out.2.2⟩
            have hdn : Hid (sgn (R - mid) P < 0 → Halving p q x R P 1 lo mid) := fun h => ⟨hH.out.1, hH.out.2.1, by rw [Int.mul_one]; exact h⟩
            generalize sgn (R - mid) P = v at *
            rcases hv with hv | hv
            all_goals
              go_wp2_with fail
              refine (HS.out _).mono ?_
              rintro e w' ⟨rfl, g1, n1, rfl⟩
              go_wp2_with fail
              go_roundw
              case rel =>
                first
                  | exact ⟨mid, hi, rfl, rfl, m2, by omega, l2, by omega, l4, hup.out hv, (by repeat (first | exact Grew.refl _ | refine Grew.drewN ?_ _ | refine Grew.grow ?_ _ | refine Grew.alloc ?_ _ | refine Grew.drew ?_))⟩
                  | exact ⟨lo, mid, rfl, rfl, m1, l1, by omega, l3, by omega, hdn.out hv, (by repeat (first | exact Grew.refl _ | refine Grew.drewN ?_ _ | refine Grew.grow ?_ _ | refine Grew.alloc ?_ _ | refine Grew.drew ?_))⟩
              case measure => simp [intOf]; omega
          · obtain rfl : hi = lo + 1 := by omega
            have l5 : lo ≤ (lo + 1) := by omega
            have HS := hid fun w => side_any (R - lo) P w (by omega) (by omega) (by omega) (by omega)
            obtain ⟨f1, f2⟩ := hH.out.fin
            rw [Int.mul_one] at f2
            generalize sgn (R - lo) P = v at *
            have F1 := hid f1
            have F2 := hid f2
            clear f1 f2 hH hgt l4 l5
            go_wp2_with fail
            refine (HS.out _).mono ?_
            rintro e w' ⟨rfl, g1, n1, rfl⟩
            go_wp2_with fail
            go_ret2
            exact ⟨by rw [F1.out, F2.out]; rfl, (by repeat (first | exact Grew.refl _ | refine Grew.drewN ?_ _ | refine Grew.grow ?_ _ | refine Grew.alloc ?_ _ | refine Grew.drew ?_))⟩

end Go.Proofs.Ytmphmfhmcgpjcaa
