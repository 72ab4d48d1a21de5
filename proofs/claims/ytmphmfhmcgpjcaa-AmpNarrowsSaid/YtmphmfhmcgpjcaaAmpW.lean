/- The program's root, floor, low and span. Conditions: within a word. -/
import Derived.Test.YtmphmfhmcgpjcaaAmpS
import Derived.Test.YtmphmfhmcgpjcaaAmpFlr
namespace Go.Proofs.Ytmphmfhmcgpjcaa
open Go Go.RowKit Amp

set_option maxHeartbeats 800000 in
theorem root_any (n : Nat) (w : World) (hn : n ≤ 2305843009213693952) :
    Calls Try.prog 83 #[.int .u64 n] w fun e w' => e = .returned (.int .u64 (isq (2 * (n * n)))) ∧ w = w' := by
  have hb : n < 18446744073709551616 := by omega
  have hm := fun w => Try.bits_Mul64 n n hb hb w
  have ht := two_mk (n * n)
  have hlt : 2 * (n * n) < 340282366920938463463374607431768211456 := by
    have : n * n ≤ 2305843009213693952 * 2305843009213693952 := Nat.mul_le_mul hn hn
    omega
  generalize n * n / 18446744073709551616 = h2 at *
  generalize n * n % 18446744073709551616 = l2 at *
  have td := two_dbl ht hlt
  have ad1 := add64 l2 l2 0 (by omega)
  have hc1 : (l2 + l2 + 0) / 18446744073709551616 ≤ 1 := by have := ht.2; unfold WW at this; omega
  have ad2 := add64 h2 h2 ((l2 + l2 + 0) / 18446744073709551616) hc1
  generalize (h2 + h2 + (l2 + l2 + 0) / 18446744073709551616) % 18446744073709551616 = h3 at *
  generalize (h2 + h2 + (l2 + l2 + 0) / 18446744073709551616) / 18446744073709551616 = c3 at *
  generalize (l2 + l2 + 0) / 18446744073709551616 = c2 at *
  generalize (l2 + l2 + 0) % 18446744073709551616 = l3 at *
  rw [show ((0 : Nat) : Int) = 0 from rfl] at ad1
  have Td := hid td
  have Hm := hid hm
  have s1 : Hid (n * n ≤ 2 * (n * n)) := by show n * n ≤ _; omega
  have s2 : Hid (2 * (n * n) < (2 * n + 1) * (2 * n + 1)) := by
    show 2 * (n * n) < _
    have : (2 * n + 1) * (2 * n + 1) = 4 * (n * n) + 4 * n + 1 := by grind
    omega
  clear td hc1 ht hlt hm hb
  go_enter Try.func83, Try.ntmps83
  go_wp2_with fail
  refine (Hm.out _).mono ?_
  rintro e w' ⟨rfl, hw⟩
  rw [hw]
  clear hw
  go_wp2_with fail
  go_loop [6, 7] (fun x y => ∃ a b : Nat, a < b ∧ b ≤ 2 * n + 1 ∧ x = .int .u64 a ∧ y = .int .u64 b ∧ Hid (a * a ≤ 2 * (n * n)) ∧ Hid (2 * (n * n) < b * b)) (fun x y => (intOf y - intOf x).toNat)
  case atStart => exact ⟨n, 2 * n + 1, by omega, by omega, rfl, by simp, s1, s2⟩
  case round =>
    obtain ⟨a, b, hab, hb, rfl, rfl, ha2, hb2⟩ := hrel
    clear s1 s2 Hm
    by_cases hlt : a + 1 < b
    · have hM := fun w => Try.bits_Mul64 (a + (b - a) / 2) (a + (b - a) / 2) (by omega) (by omega) w
      have hT := two_mk ((a + (b - a) / 2) * (a + (b - a) / 2))
      have hmi : (a : Int) + ((b : Int) - (a : Int)) / 2 = ((a + (b - a) / 2 : Nat) : Int) := by omega
      have m1 : a < a + (b - a) / 2 := by omega
      have m2 : a + (b - a) / 2 < b := by omega
      generalize a + (b - a) / 2 = m at *
      generalize m * m / 18446744073709551616 = p at *
      generalize m * m % 18446744073709551616 = q at *
      have key : 2 * (n * n) < m * m ↔ GtB p q h3 l3 := two_lt hT Td.out
      have Key := hid key
      have HM := hid hM
      clear key hM hT
      go_wp2_with fail
      refine (HM.out _).mono ?_
      rintro e w' ⟨rfl, hw⟩
      rw [hw]
      clear hw hmi HM
      rcases Nat.lt_trichotomy h3 p with h | h | h
      case' inr.inl => subst h; rcases Nat.lt_or_ge l3 q with h | h
      case' inl =>
        have e4 : decide (p < h3) = false := decide_eq_false (by omega)
        have e5 : ((p : Int) == (h3 : Int)) = false := by simp; omega
      case' inr.inl.inl => have e4 : decide (q ≤ l3) = false := decide_eq_false (by omega)
      all_goals
        go_wp2_with fail
        go_round
        case rel =>
          first
            | (have hh : 2 * (n * n) < m * m := Key.out.2 (by unfold GtB; omega)
               exact ⟨a, m, by omega, by omega, rfl, rfl, ha2, hh⟩)
            | (have hh : ¬ 2 * (n * n) < m * m := fun hx => by have := Key.out.1 hx; unfold GtB at this; omega
               exact ⟨m, b, by omega, by omega, rfl, rfl, Nat.le_of_not_lt hh, hb2⟩)
        case measure => simp [intOf]; omega
    · obtain rfl : b = a + 1 := by omega
      have He := hid (isq_eq ha2.out hb2.out)
      clear ha2 hb2 Td hlt
      go_wp2_with fail
      go_ret
      exact ⟨ret_int (by rw [He.out]), rfl⟩

set_option maxHeartbeats 800000 in
theorem floor_any (p q : Int) (w : World) (h1 : -1152921504606846976 ≤ p) (h2 : p ≤ 1152921504606846976) (h3 : -2305843009213693952 ≤ q) (h4 : q ≤ 2305843009213693952) :
    Calls Try.prog 80 #[.int .i64 p, .int .i64 q] w fun e w' => e = .returned (.int .i64 (floorN q p)) ∧ w = w' := by
  have hr := fun w => root_any p.natAbs w (by omega)
  have hi : isq (2 * (p.natAbs * p.natAbs)) ≤ 2305843009213693952 := by
    apply Nat.le_of_not_lt
    intro hgt
    have g1 := (isq_spec (2 * (p.natAbs * p.natAbs))).1
    have g2 : 2305843009213693953 * 2305843009213693953 ≤ isq (2 * (p.natAbs * p.natAbs)) * isq (2 * (p.natAbs * p.natAbs)) := Nat.mul_le_mul hgt hgt
    have g3 : p.natAbs * p.natAbs ≤ 1152921504606846976 * 1152921504606846976 := Nat.mul_le_mul (by omega) (by omega)
    omega
  have hf : floorN q p = if 0 < p then q + isq (2 * (p.natAbs * p.natAbs)) else if p < 0 then q - isq (2 * (p.natAbs * p.natAbs)) - 1 else q := rfl
  generalize isq (2 * (p.natAbs * p.natAbs)) = r at *
  have HR := hid hr
  clear hr
  rcases Int.lt_trichotomy p 0 with hp | hp | hp
  · have He := hid (hf.trans ((if_neg (by omega)).trans (if_pos hp)))
    have e1 : decide (0 < p) = false := decide_eq_false (by omega)
    clear hf
    go_enter Try.func80, Try.ntmps80
    go_wp2_with fail
    refine (size_any p _ (by omega) (by omega)).mono ?_
    rintro e w' ⟨rfl, rfl⟩
    go_wp2_with fail
    refine (HR.out _).mono ?_
    rintro e w' ⟨rfl, rfl⟩
    go_wp2_with fail
    go_ret
    exact ⟨ret_int He.out.symm, rfl⟩
  · subst hp
    have He := hid (hf.trans ((if_neg (by omega)).trans (if_neg (by omega))))
    clear hf
    go_enter Try.func80, Try.ntmps80
    go_wp2_with fail
    refine (size_any 0 _ (by omega) (by omega)).mono ?_
    rintro e w' ⟨rfl, rfl⟩
    go_wp2_with fail
    refine (HR.out _).mono ?_
    rintro e w' ⟨rfl, rfl⟩
    go_wp2_with fail
    go_ret
    exact ⟨ret_int He.out.symm, rfl⟩
  · have He := hid (hf.trans (if_pos hp))
    clear hf
    go_enter Try.func80, Try.ntmps80
    go_wp2_with fail
    refine (size_any p _ (by omega) (by omega)).mono ?_
    rintro e w' ⟨rfl, rfl⟩
    go_wp2_with fail
    refine (HR.out _).mono ?_
    rintro e w' ⟨rfl, rfl⟩
    go_wp2_with fail
    go_ret
    exact ⟨ret_int He.out.symm, rfl⟩

end Go.Proofs.Ytmphmfhmcgpjcaa
