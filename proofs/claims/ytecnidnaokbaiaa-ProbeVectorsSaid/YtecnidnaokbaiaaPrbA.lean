/- Layer 9: between and ValidFringe of the program and of the reference. No condition. -/
import Derived.Test.YtecnidnaokbaiaaRows
import Derived.Test.YtecnidnaokbaiaaHouseB
import Derived.Test.YtecnidnaokbaiaaRegionC
import Derived.Test.YtecnidnaokbaiaaPrbPlain
import Derived.Test.YtecnidnaokbaiaaRowAid
namespace Go.Proofs.Ytecnidnaokbaiaa
open Go Go.RowKit Prb

theorem ret_bool9 {a b : Bool} (h : a = b) : Ending.returned (.bool a) = .returned (.bool b) := by rw [h]
theorem ret_int9 {k : IntKind} {a b : Int} (h : a = b) : Ending.returned (.int k a) = .returned (.int k b) := by rw [h]

set_option maxHeartbeats 800000 in
theorem between_yes (a n b : Int) (w : World) (h1 : a ≤ n) (h2 : n ≤ b) :
    Calls Try.prog 19 #[.int .i64 a, .int .i64 n, .int .i64 b] w fun e w' => e = .returned (.bool true) ∧ Grew w w' := by
  go_enter Try.func19, Try.ntmps19
  go_wp2_with fail
  go_ret
  exact ⟨rfl, (by repeat (first | exact Grew.refl _ | refine Grew.drewN ?_ _ | refine Grew.grow ?_ _ | refine Grew.alloc ?_ _ | refine Grew.drew ?_))⟩

set_option maxHeartbeats 800000 in
theorem between_low (a n b : Int) (w : World) (h1 : n < a) :
    Calls Try.prog 19 #[.int .i64 a, .int .i64 n, .int .i64 b] w fun e w' => e = .returned (.bool false) ∧ Grew w w' := by
  go_enter Try.func19, Try.ntmps19
  go_wp2_with fail
  go_ret
  exact ⟨rfl, (by repeat (first | exact Grew.refl _ | refine Grew.drewN ?_ _ | refine Grew.grow ?_ _ | refine Grew.alloc ?_ _ | refine Grew.drew ?_))⟩

set_option maxHeartbeats 800000 in
theorem between_high (a n b : Int) (w : World) (h2 : b < n) :
    Calls Try.prog 19 #[.int .i64 a, .int .i64 n, .int .i64 b] w fun e w' => e = .returned (.bool false) ∧ Grew w w' := by
  by_cases h1 : a ≤ n
  case neg =>
    have h3 : n < a := by omega
    clear h1 h2
    go_enter Try.func19, Try.ntmps19
    go_wp2_with fail
    go_ret
    exact ⟨rfl, (by repeat (first | exact Grew.refl _ | refine Grew.drewN ?_ _ | refine Grew.grow ?_ _ | refine Grew.alloc ?_ _ | refine Grew.drew ?_))⟩
  have e2 : decide (n ≤ b) = false := decide_eq_false (by omega)
  go_enter Try.func19, Try.ntmps19
  go_wp2_with fail
  go_ret
  exact ⟨rfl, (by repeat (first | exact Grew.refl _ | refine Grew.drewN ?_ _ | refine Grew.grow ?_ _ | refine Grew.alloc ?_ _ | refine Grew.drew ?_))⟩

set_option maxHeartbeats 800000 in
theorem aVldF_any (m x y : Int) (w : World) :
    Calls Try.prog 8 #[.agg #[.int .i64 m, .int .i64 x, .int .i64 y]] w fun e w' => e = .returned (.bool (vldB m x y)) ∧ Grew w w' := by
  by_cases h1 : 0 ≤ m
  case neg =>
    rw [show vldB m x y = false from by rw [Bool.eq_false_iff]; intro h; have := vldB_iff.1 h; omega]
    go_enter Try.func8, Try.ntmps8
    go_wp2_with fail
    refine (between_low _ _ _ _ (by omega)).mono ?_
    rintro e w' ⟨rfl, g0, n0, rfl⟩
    go_wp2_with fail
    go_ret
    exact ⟨rfl, (by repeat (first | exact Grew.refl _ | refine Grew.drewN ?_ _ | refine Grew.grow ?_ _ | refine Grew.alloc ?_ _ | refine Grew.drew ?_))⟩
  by_cases h2 : m ≤ 2000000
  case neg =>
    rw [show vldB m x y = false from by rw [Bool.eq_false_iff]; intro h; have := vldB_iff.1 h; omega]
    go_enter Try.func8, Try.ntmps8
    go_wp2_with fail
    refine (between_high _ _ _ _ (by omega)).mono ?_
    rintro e w' ⟨rfl, g0, n0, rfl⟩
    go_wp2_with fail
    go_ret
    exact ⟨rfl, (by repeat (first | exact Grew.refl _ | refine Grew.drewN ?_ _ | refine Grew.grow ?_ _ | refine Grew.alloc ?_ _ | refine Grew.drew ?_))⟩
  by_cases h3 : -1000000 ≤ x
  case neg =>
    rw [show vldB m x y = false from by rw [Bool.eq_false_iff]; intro h; have := vldB_iff.1 h; omega]
    go_enter Try.func8, Try.ntmps8
    go_wp2_with fail
    refine (between_yes _ _ _ _ (by omega) (by omega)).mono ?_
    rintro e w' ⟨rfl, g0, n0, rfl⟩
    go_wp2_with fail
    refine (between_low _ _ _ _ (by omega)).mono ?_
    rintro e w' ⟨rfl, g1, n1, rfl⟩
    go_wp2_with fail
    go_ret
    exact ⟨rfl, (by repeat (first | exact Grew.refl _ | refine Grew.drewN ?_ _ | refine Grew.grow ?_ _ | refine Grew.alloc ?_ _ | refine Grew.drew ?_))⟩
  by_cases h4 : x ≤ 1000000
  case neg =>
    rw [show vldB m x y = false from by rw [Bool.eq_false_iff]; intro h; have := vldB_iff.1 h; omega]
    go_enter Try.func8, Try.ntmps8
    go_wp2_with fail
    refine (between_yes _ _ _ _ (by omega) (by omega)).mono ?_
    rintro e w' ⟨rfl, g0, n0, rfl⟩
    go_wp2_with fail
    refine (between_high _ _ _ _ (by omega)).mono ?_
    rintro e w' ⟨rfl, g1, n1, rfl⟩
    go_wp2_with fail
    go_ret
    exact ⟨rfl, (by repeat (first | exact Grew.refl _ | refine Grew.drewN ?_ _ | refine Grew.grow ?_ _ | refine Grew.alloc ?_ _ | refine Grew.drew ?_))⟩
  by_cases h5 : -1000000 ≤ y
  case neg =>
    rw [show vldB m x y = false from by rw [Bool.eq_false_iff]; intro h; have := vldB_iff.1 h; omega]
    go_enter Try.func8, Try.ntmps8
    go_wp2_with fail
    refine (between_yes _ _ _ _ (by omega) (by omega)).mono ?_
    rintro e w' ⟨rfl, g0, n0, rfl⟩
    go_wp2_with fail
    refine (between_yes _ _ _ _ (by omega) (by omega)).mono ?_
    rintro e w' ⟨rfl, g1, n1, rfl⟩
    go_wp2_with fail
    refine (between_low _ _ _ _ (by omega)).mono ?_
    rintro e w' ⟨rfl, g2, n2, rfl⟩
    go_wp2_with fail
    go_ret
    exact ⟨rfl, (by repeat (first | exact Grew.refl _ | refine Grew.drewN ?_ _ | refine Grew.grow ?_ _ | refine Grew.alloc ?_ _ | refine Grew.drew ?_))⟩
  by_cases h6 : y ≤ 1000000
  case neg =>
    rw [show vldB m x y = false from by rw [Bool.eq_false_iff]; intro h; have := vldB_iff.1 h; omega]
    go_enter Try.func8, Try.ntmps8
    go_wp2_with fail
    refine (between_yes _ _ _ _ (by omega) (by omega)).mono ?_
    rintro e w' ⟨rfl, g0, n0, rfl⟩
    go_wp2_with fail
    refine (between_yes _ _ _ _ (by omega) (by omega)).mono ?_
    rintro e w' ⟨rfl, g1, n1, rfl⟩
    go_wp2_with fail
    refine (between_high _ _ _ _ (by omega)).mono ?_
    rintro e w' ⟨rfl, g2, n2, rfl⟩
    go_wp2_with fail
    go_ret
    exact ⟨rfl, (by repeat (first | exact Grew.refl _ | refine Grew.drewN ?_ _ | refine Grew.grow ?_ _ | refine Grew.alloc ?_ _ | refine Grew.drew ?_))⟩
  obtain ⟨_, _⟩ := sq_bd (B := 1000000) h3 h4
  obtain ⟨_, _⟩ := sq_bd (B := 1000000) h5 h6
  obtain ⟨_, _⟩ := sq_bd (x := m) (B := 2000000) (by omega) h2
  have hd : vldB m x y = decide (x * x + y * y ≤ m * m) := by
    rw [Bool.eq_iff_iff, vldB_iff, decide_eq_true_eq]; omega
  rw [hd]
  clear hd
  go_enter Try.func8, Try.ntmps8
  go_wp2_with fail
  refine (between_yes _ _ _ _ (by omega) (by omega)).mono ?_
  rintro e w' ⟨rfl, g0, n0, rfl⟩
  go_wp2_with fail
  refine (between_yes _ _ _ _ (by omega) (by omega)).mono ?_
  rintro e w' ⟨rfl, g1, n1, rfl⟩
  go_wp2_with fail
  refine (between_yes _ _ _ _ (by omega) (by omega)).mono ?_
  rintro e w' ⟨rfl, g2, n2, rfl⟩
  go_wp2_with fail
  go_ret
  exact ⟨rfl, (by repeat (first | exact Grew.refl _ | refine Grew.drewN ?_ _ | refine Grew.grow ?_ _ | refine Grew.alloc ?_ _ | refine Grew.drew ?_))⟩

set_option maxHeartbeats 800000 in
theorem rVldF_any (m x y : Int) (w : World) :
    Calls Try.prog 9 #[.agg #[.int .i64 m, .int .i64 x, .int .i64 y]] w fun e w' => e = .returned (.bool (vldB m x y)) ∧ Grew w w' := by
  by_cases hr : (0 ≤ m ∧ m ≤ 2000000) ∧ (-1000000 ≤ x ∧ x ≤ 1000000) ∧ (-1000000 ≤ y ∧ y ≤ 1000000)
  case neg =>
    rw [show vldB m x y = false from by rw [Bool.eq_false_iff]; intro h; have := vldB_iff.1 h; omega]
    go_enter Try.func9, Try.ntmps9
    go_wp2_with fail
    all_goals
      first
        | (go_ret; exact ⟨rfl, (by repeat (first | exact Grew.refl _ | refine Grew.drewN ?_ _ | refine Grew.grow ?_ _ | refine Grew.alloc ?_ _ | refine Grew.drew ?_))⟩)
        | (exfalso; apply hr; simp only [Bool.or_eq_false_iff, decide_eq_false_iff_not] at *; omega)
  obtain ⟨⟨h1, h2⟩, ⟨h3, h4⟩, h5, h6⟩ := hr
  obtain ⟨_, _⟩ := sq_bd (B := 1000000) h3 h4
  obtain ⟨_, _⟩ := sq_bd (B := 1000000) h5 h6
  obtain ⟨_, _⟩ := sq_bd (x := m) (B := 2000000) (by omega) h2
  have hd : vldB m x y = decide (x * x + y * y ≤ m * m) := by
    rw [Bool.eq_iff_iff, vldB_iff, decide_eq_true_eq]; omega
  rw [hd]
  clear hd
  go_enter Try.func9, Try.ntmps9
  go_wp2_with fail
  go_ret
  exact ⟨rfl, (by repeat (first | exact Grew.refl _ | refine Grew.drewN ?_ _ | refine Grew.grow ?_ _ | refine Grew.alloc ?_ _ | refine Grew.drew ?_))⟩

end Go.Proofs.Ytecnidnaokbaiaa
