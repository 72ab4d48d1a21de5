/- The program's low and span. Conditions: within a word. -/
import Derived.Test.YtmphmfhmcgpjcaaAmpW
namespace Go.Proofs.Ytmphmfhmcgpjcaa
open Go Go.RowKit Amp

theorem floor_grew (p q v : Int) (w : World) (h1 : -1152921504606846976 ≤ p) (h2 : p ≤ 1152921504606846976) (h3 : -2305843009213693952 ≤ q) (h4 : q ≤ 2305843009213693952) (hv : floorN q p = v) :
    Calls Try.prog 80 #[.int .i64 p, .int .i64 q] w fun e w' => e = .returned (.int .i64 v) ∧ Grew w w' := (floor_any p q w h1 h2 h3 h4).mono fun _ _ h => ⟨by rw [h.1, hv], by rw [h.2]; exact Grew.refl _⟩
theorem shl_bd {x B : Int} {m : Nat} (h1 : -B ≤ x) (h2 : x ≤ B) (hm : m ≤ 29) (hB : B * 536870912 ≤ 1152921504606846976) : (-1152921504606846976 ≤ x * 2 ^ m ∧ x * 2 ^ m ≤ 1152921504606846976) := by
  have hp : (2 : Int) ^ m ≤ 536870912 := by
    have h1 : (2 : Nat) ^ m ≤ 2 ^ 29 := Nat.pow_le_pow_right (by decide) hm
    have h2 : ((2 ^ m : Nat) : Int) ≤ ((2 ^ 29 : Nat) : Int) := Int.ofNat_le.2 h1
    simpa using h2
  have h0 := two_pos m
  have a1 : x * 2 ^ m ≤ B * 2 ^ m := Int.mul_le_mul_of_nonneg_right h2 (by omega)
  have a2 : -B * 2 ^ m ≤ x * 2 ^ m := Int.mul_le_mul_of_nonneg_right h1 (by omega)
  have a3 : B * 2 ^ m ≤ B * 536870912 := Int.mul_le_mul_of_nonneg_left hp (by omega)
  have a4 : -B * 2 ^ m = -(B * 2 ^ m) := Int.neg_mul _ _
  omega
theorem wrap_small {x : Int} (h1 : -1152921504606846976 ≤ x) (h2 : x ≤ 1152921504606846976) : wrap64 x = x := by
  unfold wrap64; omega

set_option maxHeartbeats 800000 in
theorem low_ep (p q k b : Int) (m : Nat) (w : World) (p1 : -1000000000 ≤ p) (p2 : p ≤ 1000000000) (q1 : -2000000000 ≤ q) (q2 : q ≤ 2000000000) (k1 : 0 ≤ k) (k2 : k ≤ 40) (b1 : 0 ≤ b) (b2 : b ≤ 30) (he : 2 * b - k - 1 = 2 * (m : Int)) :
    Calls Try.prog 74 #[.int .i64 p, .int .i64 q, .int .i64 k, .int .i64 b] w fun e w' => e = .returned (.int .i64 (lowN q p (2 * b - k - 1))) ∧ Grew w w' := by
  have hm : m ≤ 29 := by omega
  obtain ⟨i1, i2⟩ := shl_bd (x := p) (B := 1000000000) (m := m) (by omega) (by omega) hm (by decide)
  obtain ⟨i3, i4⟩ := shl_bd (x := q) (B := 2000000000) (m := m) (by omega) (by omega) hm (by decide)
  have hv : floorN (q * 2 ^ m) (p * 2 ^ m) = lowN q p (2 * b - k - 1) := by
    rw [he]
    unfold lowN nP nQ
    rw [if_pos (by omega), show ((2 * (m : Int)) / 2).toNat = m by omega, if_pos (by omega), if_pos (by omega), Int.mul_comm, Int.mul_comm (p)]
  have W1 := hid (wrap_small i1 i2)
  have W2 := hid (wrap_small i3 i4)
  have HF := hid fun w => floor_grew (p * 2 ^ m) (q * 2 ^ m) _ w i1 i2 (by omega) (by omega) hv
  clear i1 i2 i3 i4 hv
  have e1 : ((2 * (m : Int)) % 2 != 0) = false := by simp
  have e2 : 0 ≤ 2 * (m : Int) := by omega
  have e3 : 2 * (m : Int) / 2 = (m : Int) := by omega
  go_enter Try.func74, Try.ntmps74
  go_wp2_with fail
  refine wp_region_gentle_lit (by kernel_rfl) (by kernel_rfl) ?_
  repeat (first | go_big_quiet_skip | (go_big_quiet_want; go_big_quiet_op; first | go_big_quiet_on | (apply Exists.intro; refine ⟨fun qq => ?_, ?_⟩; (focus ((first | (go_at_call 80; rw [W1.out, W2.out]; refine Calls.gentle_of (HF.out _) ?_)); rintro _ ⟨g', n', rfl⟩; exact ⟨⟨qq.g ++ g', qq.n + n'⟩, by rw [World.grow_drewN, World.grow_grow, World.drewN_drewN]; repeat (first | rw [List.append_assoc] | rw [Nat.add_assoc])⟩)); go_big_quiet_on)))
  refine wpQuiet_nil ?_
  rintro _ ⟨gg, ng, rfl⟩
  go_wp2_with fail
  go_ret
  exact ⟨rfl, (by repeat (first | exact Grew.refl _ | refine Grew.drewN ?_ _ | refine Grew.grow ?_ _ | refine Grew.alloc ?_ _ | refine Grew.drew ?_))⟩

set_option maxHeartbeats 800000 in
theorem low_op (p q k b : Int) (m : Nat) (w : World) (p1 : -1000000000 ≤ p) (p2 : p ≤ 1000000000) (q1 : -2000000000 ≤ q) (q2 : q ≤ 2000000000) (k1 : 0 ≤ k) (k2 : k ≤ 40) (b1 : 0 ≤ b) (b2 : b ≤ 30) (he : 2 * b - k - 1 = 2 * (m : Int) + 1) :
    Calls Try.prog 74 #[.int .i64 p, .int .i64 q, .int .i64 k, .int .i64 b] w fun e w' => e = .returned (.int .i64 (lowN q p (2 * b - k - 1))) ∧ Grew w w' := by
  have hm : m ≤ 29 := by omega
  obtain ⟨i1, i2⟩ := shl_bd (x := q) (B := 2000000000) (m := m) (by omega) (by omega) hm (by decide)
  obtain ⟨i3, i4⟩ := shl_bd (x := (2 * p)) (B := 2000000000) (m := m) (by omega) (by omega) hm (by decide)
  have hv : floorN ((2 * p) * 2 ^ m) (q * 2 ^ m) = lowN q p (2 * b - k - 1) := by
    rw [he]
    unfold lowN nP nQ
    rw [if_pos (by omega), show ((2 * (m : Int) + 1) / 2).toNat = m by omega, if_neg (by omega), if_neg (by omega), Int.mul_comm, Int.mul_comm (q)]
  have W1 := hid (wrap_small i1 i2)
  have W2 := hid (wrap_small i3 i4)
  have HF := hid fun w => floor_grew (q * 2 ^ m) ((2 * p) * 2 ^ m) _ w i1 i2 (by omega) (by omega) hv
  clear i1 i2 i3 i4 hv
  have e1 : ((2 * (m : Int) + 1) % 2 != 0) = true := by rw [bne_iff_ne]; omega
  have e0 : 2 * (m : Int) + 1 - 1 = 2 * (m : Int) := by omega
  have e2 : 0 ≤ 2 * (m : Int) := by omega
  have e3 : 2 * (m : Int) / 2 = (m : Int) := by omega
  go_enter Try.func74, Try.ntmps74
  go_wp2_with fail
  refine wp_region_gentle_lit (by kernel_rfl) (by kernel_rfl) ?_
  repeat (first | go_big_quiet_skip | (go_big_quiet_want; go_big_quiet_op; first | go_big_quiet_on | (apply Exists.intro; refine ⟨fun qq => ?_, ?_⟩; (focus ((first | (go_at_call 80; rw [W1.out, W2.out]; refine Calls.gentle_of (HF.out _) ?_)); rintro _ ⟨g', n', rfl⟩; exact ⟨⟨qq.g ++ g', qq.n + n'⟩, by rw [World.grow_drewN, World.grow_grow, World.drewN_drewN]; repeat (first | rw [List.append_assoc] | rw [Nat.add_assoc])⟩)); go_big_quiet_on)))
  refine wpQuiet_nil ?_
  rintro _ ⟨gg, ng, rfl⟩
  go_wp2_with fail
  go_ret
  exact ⟨rfl, (by repeat (first | exact Grew.refl _ | refine Grew.drewN ?_ _ | refine Grew.grow ?_ _ | refine Grew.alloc ?_ _ | refine Grew.drew ?_))⟩

set_option maxHeartbeats 800000 in
theorem low_en (p q k b : Int) (m : Nat) (w : World) (p1 : -1000000000 ≤ p) (p2 : p ≤ 1000000000) (q1 : -2000000000 ≤ q) (q2 : q ≤ 2000000000) (k1 : 0 ≤ k) (k2 : k ≤ 40) (b1 : 0 ≤ b) (b2 : b ≤ 30) (he : 2 * b - k - 1 = -(2 * (m : Int))) (m0 : 1 ≤ m) :
    Calls Try.prog 74 #[.int .i64 p, .int .i64 q, .int .i64 k, .int .i64 b] w fun e w' => e = .returned (.int .i64 (lowN q p (2 * b - k - 1))) ∧ Grew w w' := by
  have hm : m ≤ 21 := by omega
  have hv : floorN (q) (p) / 2 ^ m = lowN q p (2 * b - k - 1) := by
    rw [he]
    unfold lowN nP nQ
    rw [if_neg (by omega), show (-((-(2 * (m : Int))) / 2)).toNat = m by omega, if_pos (by omega), if_pos (by omega)]
  have HF := hid fun w => floor_grew (p) (q) _ w (by omega) (by omega) (by omega) (by omega) rfl
  generalize floorN (q) (p) = v at *
  have HV := hid hv
  clear hv
  have e1 : ((-(2 * (m : Int))) % 2 != 0) = false := by simp
  have e2 : decide (0 ≤ -(2 * (m : Int))) = false := decide_eq_false (by omega)
  have e3 : 2 * (m : Int) / 2 = (m : Int) := by omega
  have e4 : - -(2 * (m : Int)) = 2 * (m : Int) := by omega
  go_enter Try.func74, Try.ntmps74
  go_wp2_with fail
  refine (HF.out _).mono ?_
  rintro e w' ⟨rfl, g, n, rfl⟩
  go_wp2_with fail
  go_ret
  exact ⟨ret_int HV.out, (by repeat (first | exact Grew.refl _ | refine Grew.drewN ?_ _ | refine Grew.grow ?_ _ | refine Grew.alloc ?_ _ | refine Grew.drew ?_))⟩

set_option maxHeartbeats 800000 in
theorem low_on (p q k b : Int) (m : Nat) (w : World) (p1 : -1000000000 ≤ p) (p2 : p ≤ 1000000000) (q1 : -2000000000 ≤ q) (q2 : q ≤ 2000000000) (k1 : 0 ≤ k) (k2 : k ≤ 40) (b1 : 0 ≤ b) (b2 : b ≤ 30) (he : 2 * b - k - 1 = -(2 * (m : Int)) + 1) (m0 : 1 ≤ m) :
    Calls Try.prog 74 #[.int .i64 p, .int .i64 q, .int .i64 k, .int .i64 b] w fun e w' => e = .returned (.int .i64 (lowN q p (2 * b - k - 1))) ∧ Grew w w' := by
  have hm : m ≤ 21 := by omega
  have hv : floorN (2 * p) (q) / 2 ^ m = lowN q p (2 * b - k - 1) := by
    rw [he]
    unfold lowN nP nQ
    rw [if_neg (by omega), show (-((-(2 * (m : Int)) + 1) / 2)).toNat = m by omega, if_neg (by omega), if_neg (by omega)]
  have HF := hid fun w => floor_grew (q) (2 * p) _ w (by omega) (by omega) (by omega) (by omega) rfl
  generalize floorN (2 * p) (q) = v at *
  have HV := hid hv
  clear hv
  have e1 : ((-(2 * (m : Int)) + 1) % 2 != 0) = true := by rw [bne_iff_ne]; omega
  have e0 : -(2 * (m : Int)) + 1 - 1 = -(2 * (m : Int)) := by omega
  have e2 : decide (0 ≤ -(2 * (m : Int))) = false := decide_eq_false (by omega)
  have e3 : 2 * (m : Int) / 2 = (m : Int) := by omega
  have e4 : - -(2 * (m : Int)) = 2 * (m : Int) := by omega
  go_enter Try.func74, Try.ntmps74
  go_wp2_with fail
  refine (HF.out _).mono ?_
  rintro e w' ⟨rfl, g, n, rfl⟩
  go_wp2_with fail
  go_ret
  exact ⟨ret_int HV.out, (by repeat (first | exact Grew.refl _ | refine Grew.drewN ?_ _ | refine Grew.grow ?_ _ | refine Grew.alloc ?_ _ | refine Grew.drew ?_))⟩

theorem low_any (p q k b : Int) (w : World) (p1 : -1000000000 ≤ p) (p2 : p ≤ 1000000000) (q1 : -2000000000 ≤ q) (q2 : q ≤ 2000000000) (k1 : 0 ≤ k) (k2 : k ≤ 40) (b1 : 0 ≤ b) (b2 : b ≤ 30) :
    Calls Try.prog 74 #[.int .i64 p, .int .i64 q, .int .i64 k, .int .i64 b] w fun e w' => e = .returned (.int .i64 (lowN q p (2 * b - k - 1))) ∧ Grew w w' := by
  have h : (∃ m : Nat, 2 * b - k - 1 = 2 * (m : Int)) ∨ (∃ m : Nat, 2 * b - k - 1 = 2 * (m : Int) + 1) ∨ (∃ m : Nat, 1 ≤ m ∧ 2 * b - k - 1 = -(2 * (m : Int))) ∨ (∃ m : Nat, 1 ≤ m ∧ 2 * b - k - 1 = -(2 * (m : Int)) + 1) := by
    by_cases h0 : 0 ≤ 2 * b - k - 1
    · by_cases h1 : (2 * b - k - 1) % 2 = 0
      · exact .inl ⟨((2 * b - k - 1) / 2).toNat, by omega⟩
      · exact .inr (.inl ⟨((2 * b - k - 1) / 2).toNat, by omega⟩)
    · by_cases h1 : (2 * b - k - 1) % 2 = 0
      · exact .inr (.inr (.inl ⟨(-(2 * b - k - 1) / 2).toNat, by omega, by omega⟩))
      · exact .inr (.inr (.inr ⟨((-(2 * b - k - 1) + 1) / 2).toNat, by omega, by omega⟩))
  rcases h with ⟨m, h⟩ | ⟨m, h⟩ | ⟨m, h0, h⟩ | ⟨m, h0, h⟩
  · exact low_ep p q k b m w p1 p2 q1 q2 k1 k2 b1 b2 h
  · exact low_op p q k b m w p1 p2 q1 q2 k1 k2 b1 b2 h
  · exact low_en p q k b m w p1 p2 q1 q2 k1 k2 b1 b2 h h0
  · exact low_on p q k b m w p1 p2 q1 q2 k1 k2 b1 b2 h h0

theorem floorN_bd (p q : Int) (h1 : -1152921504606846976 ≤ q) (h2 : q ≤ 1152921504606846976) (h3 : -2305843009213693952 ≤ p) (h4 : p ≤ 2305843009213693952) : -4611686018427387905 ≤ floorN p q ∧ floorN p q ≤ 4611686018427387904 := by
  have hi : isq (2 * (q.natAbs * q.natAbs)) ≤ 2305843009213693952 := by
    apply Nat.le_of_not_lt
    intro hgt
    have g1 := (isq_spec (2 * (q.natAbs * q.natAbs))).1
    have g2 : 2305843009213693953 * 2305843009213693953 ≤ isq (2 * (q.natAbs * q.natAbs)) * isq (2 * (q.natAbs * q.natAbs)) := Nat.mul_le_mul hgt hgt
    have g3 : q.natAbs * q.natAbs ≤ 1152921504606846976 * 1152921504606846976 := Nat.mul_le_mul (by omega) (by omega)
    omega
  unfold floorN
  generalize isq (2 * (q.natAbs * q.natAbs)) = r at *
  split
  · omega
  · split <;> omega
theorem lowN_bd (p q k b : Int) (p1 : -1000000000 ≤ p) (p2 : p ≤ 1000000000) (q1 : -2000000000 ≤ q) (q2 : q ≤ 2000000000) (k1 : 0 ≤ k) (k2 : k ≤ 40) (b1 : 0 ≤ b) (b2 : b ≤ 30) : -4611686018427387905 ≤ lowN q p (2 * b - k - 1) ∧ lowN q p (2 * b - k - 1) ≤ 4611686018427387904 := by
  have hP : -2000000000 ≤ nP q p (2 * b - k - 1) ∧ nP q p (2 * b - k - 1) ≤ 2000000000 := by unfold nP; split <;> omega
  have hQ : -2000000000 ≤ nQ q p (2 * b - k - 1) ∧ nQ q p (2 * b - k - 1) ≤ 2000000000 := by unfold nQ; split <;> omega
  unfold lowN
  generalize nP q p (2 * b - k - 1) = P at *
  generalize nQ q p (2 * b - k - 1) = Q at *
  split
  · obtain ⟨i1, i2⟩ := shl_bd (x := P) (B := 2000000000) (m := ((2 * b - k - 1) / 2).toNat) hP.1 hP.2 (by omega) (by decide)
    obtain ⟨i3, i4⟩ := shl_bd (x := Q) (B := 2000000000) (m := ((2 * b - k - 1) / 2).toNat) hQ.1 hQ.2 (by omega) (by decide)
    rw [Int.mul_comm _ P, Int.mul_comm _ Q]
    exact floorN_bd _ _ i3 i4 (by omega) (by omega)
  · obtain ⟨h1, h2⟩ := floorN_bd P Q (by omega) (by omega) (by omega) (by omega)
    have hu := two_pos (-((2 * b - k - 1) / 2)).toNat
    generalize (2 : Int) ^ (-((2 * b - k - 1) / 2)).toNat = u at *
    generalize floorN P Q = n at *
    refine ⟨?_, ?_⟩
    · apply (Int.le_ediv_iff_mul_le hu).2
      have : (-4611686018427387905 : Int) * u ≤ -4611686018427387905 * 1 := by omega
      omega
    · have h5 : n / u ≤ 4611686018427387904 / u := Int.ediv_le_ediv hu h2
      have h6 : (4611686018427387904 : Int) / u ≤ 4611686018427387904 := Int.ediv_le_self _ (by decide)
      omega

set_option maxHeartbeats 800000 in
theorem span_any (p q k b : Int) (w : World) (p1 : -1000000000 ≤ p) (p2 : p ≤ 1000000000) (q1 : -2000000000 ≤ q) (q2 : q ≤ 2000000000) (k1 : 0 ≤ k) (k2 : k ≤ 40) (b1 : 0 ≤ b) (b2 : b ≤ 30) :
    Calls Try.prog 67 #[.int .i64 p, .int .i64 q, .int .i64 k, .int .i64 b] w fun e w' => e = .returned (.agg #[.int .i64 (lowN q p (2 * b - k - 1)), .int .i64 (hiN q p (2 * b - k - 1))]) ∧ Grew w w' := by
  have H1 := hid fun w => low_any p q k b w p1 p2 q1 q2 k1 k2 b1 b2
  have H2 := hid fun w => low_any (-p) (-q) k b w (by omega) (by omega) (by omega) (by omega) k1 k2 b1 b2
  obtain ⟨i1, i2⟩ := lowN_bd (-p) (-q) k b (by omega) (by omega) (by omega) (by omega) k1 k2 b1 b2
  have hh : hiN q p (2 * b - k - 1) = -lowN (-q) (-p) (2 * b - k - 1) := rfl
  generalize lowN (-q) (-p) (2 * b - k - 1) = v2 at *
  generalize lowN q p (2 * b - k - 1) = v1 at *
  generalize hiN q p (2 * b - k - 1) = v3 at *
  have Hh := hid hh
  clear hh
  go_enter Try.func67, Try.ntmps67
  go_wp2_with fail
  refine (H1.out _).mono ?_
  rintro e w' ⟨rfl, g, n, rfl⟩
  go_wp2_with fail
  refine (H2.out _).mono ?_
  rintro e w' ⟨rfl, g1, n1, rfl⟩
  go_wp2_with fail
  exact bodyPost_ret (v := .agg #[.int .i64 v1, .int .i64 (-v2)]) (by simp [results, Try.results67, go_sem]) rfl ⟨by rw [Hh.out], (by repeat (first | exact Grew.refl _ | refine Grew.drewN ?_ _ | refine Grew.grow ?_ _ | refine Grew.alloc ?_ _ | refine Grew.drew ?_))⟩

end Go.Proofs.Ytmphmfhmcgpjcaa
