/- Layer 9: Visibility of the program and of the reference; the sanity check. No condition. -/
import Derived.Test.YtecnidnaokbaiaaPrbA
import Derived.Test.YtecnidnaokbaiaaPrbPlain
namespace Go.Proofs.Ytecnidnaokbaiaa
open Go Go.RowKit Prb

set_option maxHeartbeats 800000 in
theorem aVis_any (m x y : Int) (w : World) :
    Calls Try.prog 13 #[.agg #[.int .i64 m, .int .i64 x, .int .i64 y]] w fun e w' => e = .returned (.tuple #[.agg #[.int .i64 (visN m x y).n, .int .i64 (visN m x y).d], .int .i64 (visN m x y).e]) ∧ Grew w w' := by
  have HV := hid fun w => aVldF_any m x y w
  by_cases hv : vldB m x y = true
  case neg =>
    have he := hid (visN_bad hv)
    rw [show vldB m x y = false by simpa using hv] at HV
    clear hv
    go_enter Try.func13, Try.ntmps13
    go_wp2_with fail
    refine (HV.out _).mono ?_
    rintro e w' ⟨rfl, g, n, rfl⟩
    go_wp2_with fail
    exact bodyPost_ret (v := .tuple #[.agg #[.int .i64 0, .int .i64 0], .int .i64 90]) (by simp [results, Try.results13, go_sem]) rfl ⟨by rw [he.out], (by repeat (first | exact Grew.refl _ | refine Grew.drewN ?_ _ | refine Grew.grow ?_ _ | refine Grew.alloc ?_ _ | refine Grew.drew ?_))⟩
  by_cases hm : m = 0
  case pos =>
    have he := hid (visN_none hv hm)
    rw [hv] at HV
    have hb : (m == 0) = true := by simpa using hm
    clear hv hm
    go_enter Try.func13, Try.ntmps13
    go_wp2_with fail
    refine (HV.out _).mono ?_
    rintro e w' ⟨rfl, g, n, rfl⟩
    go_wp2_with fail
    exact bodyPost_ret (v := .tuple #[.agg #[.int .i64 0, .int .i64 0], .int .i64 5]) (by simp [results, Try.results13, go_sem]) rfl ⟨by rw [he.out], (by repeat (first | exact Grew.refl _ | refine Grew.drewN ?_ _ | refine Grew.grow ?_ _ | refine Grew.alloc ?_ _ | refine Grew.drew ?_))⟩
  have he := hid (visN_ok hv hm)
  obtain ⟨⟨m1, m2⟩, ⟨x1, x2⟩, ⟨y1, y2⟩, _⟩ := vldB_iff.1 hv
  obtain ⟨_, _⟩ := sq_bd (B := 1000000) x1 x2
  obtain ⟨_, _⟩ := sq_bd (B := 1000000) y1 y2
  obtain ⟨_, _⟩ := sq_bd (x := m) (B := 2000000) (by omega) m2
  have hm2 : 0 < m * m := Int.mul_pos (by omega) (by omega)
  obtain ⟨n, hn⟩ : ∃ n : Nat, x * x + y * y = (n : Int) := ⟨(x * x + y * y).toNat, by omega⟩
  obtain ⟨d, hd⟩ : ∃ d : Nat, m * m = (d : Int) := ⟨(m * m).toNat, by omega⟩
  rw [hn, hd, Int.toNat_natCast, Int.toNat_natCast] at he
  have hnd : n ≤ d := by omega
  have hd1 : d ≤ 4000000000000 := by omega
  have hd0 : 0 < d := by omega
  have hg0 : 0 < Nat.gcd n d := Nat.gcd_pos_of_pos_right _ hd0
  have hb : (m == 0) = false := by simpa using hm
  rw [hv] at HV
  clear hv hm hm2
  go_enter Try.func13, Try.ntmps13
  go_wp2_with fail
  refine (HV.out _).mono ?_
  rintro e w' ⟨rfl, g, k, rfl⟩
  go_wp2_with fail
  refine wp_region_gentle_lit (by kernel_rfl) (by kernel_rfl) ?_
  repeat (first | go_big_quiet_skip | (go_big_quiet_want; go_big_quiet_op; first | go_big_quiet_on | fail))
  refine wpQuiet_nil ?_
  rintro _ ⟨gg, ng, rfl⟩
  go_wp2_with fail
  go_loopw [6, 7] (fun p q wr => ∃ a b : Nat, p = .int .i64 a ∧ q = .int .i64 b ∧ a ≤ 4000000000000 ∧ b ≤ 4000000000000 ∧ Hid (Nat.gcd a b = Nat.gcd n d) ∧ Grew (((w.alloc (.cells #[.int .i64 m, .int .i64 x, .int .i64 y] 24)).alloc (.cells #[.int .i64 0, .int .i64 0] 34))) wr) (fun _ q _ => (intOf q).toNat)
  case atStart => exact ⟨n, d, rfl, rfl, by omega, by omega, rfl, (by repeat (first | exact Grew.refl _ | refine Grew.drewN ?_ _ | refine Grew.grow ?_ _ | refine Grew.alloc ?_ _ | refine Grew.drew ?_))⟩
  case round =>
    obtain ⟨a, b, rfl, rfl, ha, hb1, hg, gg, nn, rfl⟩ := hrel
    by_cases h0 : 0 < b
    · have e1 : ((b : Int) == 0) = false := by simp; omega
      have e2 : ((b : Int) != 0) = true := by simp; omega
      have hs := hid (gcd_step a b)
      have hlt := Nat.mod_lt a h0
      go_wp2_with fail
      refine wp_region_gentle_lit (by kernel_rfl) (by kernel_rfl) ?_
      repeat (first | go_big_quiet_skip | (go_big_quiet_want; go_big_quiet_op; first | go_big_quiet_on | fail))
      refine wpQuiet_nil ?_
      rintro _ ⟨gg, ng, rfl⟩
      go_wp2_with fail
      go_roundw
      case rel => exact ⟨b, a % b, rfl, by simp, hb1, by omega, hs.out.trans hg.out, (by repeat (first | exact Grew.refl _ | refine Grew.drewN ?_ _ | refine Grew.grow ?_ _ | refine Grew.alloc ?_ _ | refine Grew.drew ?_))⟩
      case measure => simp [intOf]; omega
    · obtain rfl : b = 0 := by omega
      have hga : a = Nat.gcd n d := by rw [← hg.out, Nat.gcd_zero_right]
      have e1 : ((a : Int) == 0) = false := by simp; omega
      have e3 : 0 < a := by omega
      have Hga := hid hga
      rw [← hga] at he
      have W1 : Hid (wrap64 ((n : Int) / (a : Int)) = (n : Int) / (a : Int)) := by
        have b1 : 0 ≤ (n : Int) / (a : Int) := Int.ediv_nonneg (by omega) (by omega)
        have b2 : (n : Int) / (a : Int) ≤ n := Int.ediv_le_self _ (by omega)
        exact IntWalk.wrap64_in _ (by omega)
      have W2 : Hid (wrap64 ((d : Int) / (a : Int)) = (d : Int) / (a : Int)) := by
        have b1 : 0 ≤ (d : Int) / (a : Int) := Int.ediv_nonneg (by omega) (by omega)
        have b2 : (d : Int) / (a : Int) ≤ d := Int.ediv_le_self _ (by omega)
        exact IntWalk.wrap64_in _ (by omega)
      clear hga hg hg0
      go_wp2_with fail
      refine wp_region_gentle_tail 7 (by kernel_rfl) (by kernel_rfl) (by kernel_rfl) ?_
      simp only [List.take_succ_cons, List.take_zero, List.drop_succ_cons, List.drop_zero]
      repeat (first | go_big_quiet_skip | (go_big_quiet_want; go_big_quiet_op; first | go_big_quiet_on | fail))
      refine wpQuiet_nil ?_
      rintro _ ⟨gg, ng, rfl⟩
      go_wp2_with fail
      exact bodyPost_ret (v := .tuple #[.agg #[.int .i64 (wrap64 ((n : Int) / (a : Int))), .int .i64 (wrap64 ((d : Int) / (a : Int)))], .int .i64 0]) (by simp [results, Try.results13, go_sem]) rfl ⟨by rw [W1.out, W2.out, he.out], (by repeat (first | exact Grew.refl _ | refine Grew.drewN ?_ _ | refine Grew.grow ?_ _ | refine Grew.alloc ?_ _ | refine Grew.drew ?_))⟩

set_option maxHeartbeats 800000 in
theorem rVis_any (m x y : Int) (w : World) :
    Calls Try.prog 15 #[.agg #[.int .i64 m, .int .i64 x, .int .i64 y]] w fun e w' => e = .returned (.tuple #[.agg #[.int .i64 (visN m x y).n, .int .i64 (visN m x y).d], .int .i64 (visN m x y).e]) ∧ Grew w w' := by
  have HV := hid fun w => rVldF_any m x y w
  by_cases hv : vldB m x y = true
  case neg =>
    have he := hid (visN_bad hv)
    rw [show vldB m x y = false by simpa using hv] at HV
    clear hv
    go_enter Try.func15, Try.ntmps15
    go_wp2_with fail
    refine (HV.out _).mono ?_
    rintro e w' ⟨rfl, g, n, rfl⟩
    go_wp2_with fail
    exact bodyPost_ret (v := .tuple #[.agg #[.int .i64 0, .int .i64 0], .int .i64 90]) (by simp [results, Try.results15, go_sem]) rfl ⟨by rw [he.out], (by repeat (first | exact Grew.refl _ | refine Grew.drewN ?_ _ | refine Grew.grow ?_ _ | refine Grew.alloc ?_ _ | refine Grew.drew ?_))⟩
  by_cases hm : m = 0
  case pos =>
    have he := hid (visN_none hv hm)
    rw [hv] at HV
    have hb : (m == 0) = true := by simpa using hm
    clear hv hm
    go_enter Try.func15, Try.ntmps15
    go_wp2_with fail
    refine (HV.out _).mono ?_
    rintro e w' ⟨rfl, g, n, rfl⟩
    go_wp2_with fail
    exact bodyPost_ret (v := .tuple #[.agg #[.int .i64 0, .int .i64 0], .int .i64 5]) (by simp [results, Try.results15, go_sem]) rfl ⟨by rw [he.out], (by repeat (first | exact Grew.refl _ | refine Grew.drewN ?_ _ | refine Grew.grow ?_ _ | refine Grew.alloc ?_ _ | refine Grew.drew ?_))⟩
  have he := hid (visN_ok hv hm)
  obtain ⟨⟨m1, m2⟩, ⟨x1, x2⟩, ⟨y1, y2⟩, _⟩ := vldB_iff.1 hv
  obtain ⟨_, _⟩ := sq_bd (B := 1000000) x1 x2
  obtain ⟨_, _⟩ := sq_bd (B := 1000000) y1 y2
  obtain ⟨_, _⟩ := sq_bd (x := m) (B := 2000000) (by omega) m2
  have hm2 : 0 < m * m := Int.mul_pos (by omega) (by omega)
  obtain ⟨n, hn⟩ : ∃ n : Nat, x * x + y * y = (n : Int) := ⟨(x * x + y * y).toNat, by omega⟩
  obtain ⟨d, hd⟩ : ∃ d : Nat, m * m = (d : Int) := ⟨(m * m).toNat, by omega⟩
  rw [hn, hd, Int.toNat_natCast, Int.toNat_natCast] at he
  have hnd : n ≤ d := by omega
  have hd1 : d ≤ 4000000000000 := by omega
  have hd0 : 0 < d := by omega
  have hg0 : 0 < Nat.gcd n d := Nat.gcd_pos_of_pos_right _ hd0
  have hb : (m == 0) = false := by simpa using hm
  rw [hv] at HV
  clear hv hm hm2
  go_enter Try.func15, Try.ntmps15
  go_wp2_with fail
  refine (HV.out _).mono ?_
  rintro e w' ⟨rfl, g, k, rfl⟩
  go_wp2_with fail
  refine wp_region_gentle_lit (by kernel_rfl) (by kernel_rfl) ?_
  repeat (first | go_big_quiet_skip | (go_big_quiet_want; go_big_quiet_op; first | go_big_quiet_on | fail))
  refine wpQuiet_nil ?_
  rintro _ ⟨gg, ng, rfl⟩
  go_wp2_with fail
  go_loopw [6, 7] (fun p q wr => ∃ a b : Nat, p = .int .i64 a ∧ q = .int .i64 b ∧ a ≤ 4000000000000 ∧ b ≤ 4000000000000 ∧ Hid (Nat.gcd a b = Nat.gcd n d) ∧ Grew (((w.alloc (.cells #[.int .i64 m, .int .i64 x, .int .i64 y] 24)).alloc (.cells #[.int .i64 0, .int .i64 0] 34))) wr) (fun _ q _ => (intOf q).toNat)
  case atStart => exact ⟨n, d, rfl, rfl, by omega, by omega, rfl, (by repeat (first | exact Grew.refl _ | refine Grew.drewN ?_ _ | refine Grew.grow ?_ _ | refine Grew.alloc ?_ _ | refine Grew.drew ?_))⟩
  case round =>
    obtain ⟨a, b, rfl, rfl, ha, hb1, hg, gg, nn, rfl⟩ := hrel
    by_cases h0 : 0 < b
    · have e1 : ((b : Int) == 0) = false := by simp; omega
      have e2 : ((b : Int) != 0) = true := by simp; omega
      have hs := hid (gcd_step a b)
      have hlt := Nat.mod_lt a h0
      go_wp2_with fail
      refine wp_region_gentle_lit (by kernel_rfl) (by kernel_rfl) ?_
      repeat (first | go_big_quiet_skip | (go_big_quiet_want; go_big_quiet_op; first | go_big_quiet_on | fail))
      refine wpQuiet_nil ?_
      rintro _ ⟨gg, ng, rfl⟩
      go_wp2_with fail
      go_roundw
      case rel => exact ⟨b, a % b, rfl, by simp, hb1, by omega, hs.out.trans hg.out, (by repeat (first | exact Grew.refl _ | refine Grew.drewN ?_ _ | refine Grew.grow ?_ _ | refine Grew.alloc ?_ _ | refine Grew.drew ?_))⟩
      case measure => simp [intOf]; omega
    · obtain rfl : b = 0 := by omega
      have hga : a = Nat.gcd n d := by rw [← hg.out, Nat.gcd_zero_right]
      have e1 : ((a : Int) == 0) = false := by simp; omega
      have e3 : 0 < a := by omega
      have Hga := hid hga
      rw [← hga] at he
      have W1 : Hid (wrap64 ((n : Int) / (a : Int)) = (n : Int) / (a : Int)) := by
        have b1 : 0 ≤ (n : Int) / (a : Int) := Int.ediv_nonneg (by omega) (by omega)
        have b2 : (n : Int) / (a : Int) ≤ n := Int.ediv_le_self _ (by omega)
        exact IntWalk.wrap64_in _ (by omega)
      have W2 : Hid (wrap64 ((d : Int) / (a : Int)) = (d : Int) / (a : Int)) := by
        have b1 : 0 ≤ (d : Int) / (a : Int) := Int.ediv_nonneg (by omega) (by omega)
        have b2 : (d : Int) / (a : Int) ≤ d := Int.ediv_le_self _ (by omega)
        exact IntWalk.wrap64_in _ (by omega)
      clear hga hg hg0
      go_wp2_with fail
      refine wp_region_gentle_tail 7 (by kernel_rfl) (by kernel_rfl) (by kernel_rfl) ?_
      simp only [List.take_succ_cons, List.take_zero, List.drop_succ_cons, List.drop_zero]
      repeat (first | go_big_quiet_skip | (go_big_quiet_want; go_big_quiet_op; first | go_big_quiet_on | fail))
      refine wpQuiet_nil ?_
      rintro _ ⟨gg, ng, rfl⟩
      go_wp2_with fail
      exact bodyPost_ret (v := .tuple #[.agg #[.int .i64 (wrap64 ((n : Int) / (a : Int))), .int .i64 (wrap64 ((d : Int) / (a : Int)))], .int .i64 0]) (by simp [results, Try.results15, go_sem]) rfl ⟨by rw [W1.out, W2.out, he.out], (by repeat (first | exact Grew.refl _ | refine Grew.drewN ?_ _ | refine Grew.grow ?_ _ | refine Grew.alloc ?_ _ | refine Grew.drew ?_))⟩

theorem run_eql_ratio (a b c d : Int) (w : World) : (binOp .eql 34 (.agg #[.int .i64 a, .int .i64 b]) (.agg #[.int .i64 c, .int .i64 d])).run Try.prog w = .ok (.bool (a == c && b == d)) w := by
  rw [run_eql_struct]
  simp [go_sem]
  by_cases h1 : a = c
  · by_cases h2 : b = d <;> simp [h1, h2]
  · simp [h1]
attribute [go_sem high] run_eql_ratio
set_option maxHeartbeats 800000 in
theorem awake9_any (w : World) : Calls Try.prog 12 #[] w fun e w' => e = .returned (.bool true) ∧ Grew w w' := by
  have HV := hid fun w => aVis_any 12 8 2 w
  rw [show visN 12 8 2 = ⟨17, 36, 0⟩ from by decide +kernel] at HV
  go_enter Try.func12, Try.ntmps12
  go_wp2_with fail
  refine (HV.out _).mono ?_
  rintro e w' ⟨rfl, g, n, rfl⟩
  go_wp2_with fail
  go_ret
  exact ⟨rfl, (by repeat (first | exact Grew.refl _ | refine Grew.drewN ?_ _ | refine Grew.grow ?_ _ | refine Grew.alloc ?_ _ | refine Grew.drew ?_))⟩

end Go.Proofs.Ytecnidnaokbaiaa
