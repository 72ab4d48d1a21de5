/- Layer 9: halves of whole numbers; Readings of the program. No condition. -/
import Derived.Test.YtecnidnaokbaiaaPrbB
namespace Go.Proofs.Ytecnidnaokbaiaa
open Go Go.RowKit Prb

theorem tm_iff {p : Int} : p.tmod 2 = 0 ↔ p % 2 = 0 := by rw [← Int.dvd_iff_tmod_eq_zero, Int.dvd_iff_emod_eq_zero]
theorem tm_ne {p : Int} (h : p % 2 = 0) : (p.tmod 2 != 0) = false := by simpa using tm_iff.2 h
theorem em_ne {p : Int} (h : p % 2 = 0) : (p % 2 != 0) = false := by simpa using h
theorem td_neg {p : Int} (h : p % 2 = 0) (hn : p < 0) : p.tdiv 2 < 0 := by
  have h1 := Int.mul_tdiv_add_tmod p 2
  rw [tm_iff.2 h] at h1
  omega

set_option maxHeartbeats 4000000 in
theorem aReadings_any (m x y : Int) (w : World) :
    Calls Try.prog 10 #[.agg #[.int .i64 m, .int .i64 x, .int .i64 y]] w fun e w' => e = .returned (.tuple #[.agg #[.int .i64 (rdN m x y).a, .int .i64 (rdN m x y).b, .int .i64 (rdN m x y).c, .int .i64 (rdN m x y).d], .int .i64 (rdN m x y).e]) ∧ Grew w w' := by
  have HV := hid fun w => aVldF_any m x y w
  by_cases hv : vldB m x y = true
  case neg =>
    have he : Hid (rdN m x y = ⟨0, 0, 0, 0, 90⟩) := rdN_bad hv
    rw [show vldB m x y = false by simpa using hv] at HV
    clear hv
    go_enter Try.func10, Try.ntmps10
    go_wp2_with fail
    refine (HV.out _).mono ?_
    rintro e w' ⟨rfl, g, n, rfl⟩
    go_wp2_with fail
    exact bodyPost_ret (v := .tuple #[.agg #[.int .i64 0, .int .i64 0, .int .i64 0, .int .i64 0], .int .i64 90]) (by simp [results, Try.results10, go_sem]) rfl ⟨by rw [he.out], (by repeat (first | exact Grew.refl _ | refine Grew.drewN ?_ _ | refine Grew.grow ?_ _ | refine Grew.alloc ?_ _ | refine Grew.drew ?_))⟩
  obtain ⟨⟨m1, m2⟩, ⟨x1, x2⟩, ⟨y1, y2⟩, _⟩ := vldB_iff.1 hv
  have hodd := rdN_odd hv
  have hok := rdN_ok hv
  rw [hv] at HV
  clear hv
  have z1 : -1000000 ≤ m + x ∧ m + x ≤ 3000000 := by omega
  have z2 : -1000000 ≤ m + y ∧ m + y ≤ 3000000 := by omega
  have z3 : -1000000 ≤ m - x ∧ m - x ≤ 3000000 := by omega
  have z4 : -1000000 ≤ m - y ∧ m - y ≤ 3000000 := by omega
  obtain ⟨p1, hp1⟩ : ∃ p : Int, m + x = p := ⟨_, rfl⟩
  obtain ⟨p2, hp2⟩ : ∃ p : Int, m + y = p := ⟨_, rfl⟩
  obtain ⟨p3, hp3⟩ : ∃ p : Int, m - x = p := ⟨_, rfl⟩
  obtain ⟨p4, hp4⟩ : ∃ p : Int, m - y = p := ⟨_, rfl⟩
  rw [hp1] at z1 hodd hok
  rw [hp2] at z2 hodd hok
  rw [hp3] at z3 hodd hok
  rw [hp4] at z4 hodd hok
  obtain ⟨_, _⟩ := z1
  obtain ⟨_, _⟩ := z2
  obtain ⟨_, _⟩ := z3
  obtain ⟨_, _⟩ := z4
  by_cases h1 : evB p1 = true
  case neg =>
    have he : Hid (rdN m x y = ⟨0, 0, 0, 0, 2⟩) := hodd fun h => h1 h.1
    have hx : p1.tmod 2 ≠ 0 ∨ (p1 % 2 = 0 ∧ p1 < 0) ∨ (p1 % 2 = 0 ∧ 2000000 < p1) := by
      have e0 := tm_iff (p := p1)
      have hn : ¬ (p1 % 2 = 0 ∧ 0 ≤ p1 ∧ p1 ≤ 2000000) := fun h => h1 (evB_iff.2 h)
      clear hodd hok
      omega
    clear hodd hok h1
    go_enter Try.func10, Try.ntmps10
    go_wp2_with fail
    refine (HV.out _).mono ?_
    rintro e w' ⟨rfl, g, n, rfl⟩
    go_wp2_with fail
    refine wp_loop_rounds 5 ?_
    simp only [rounds_succ]
    rcases hx with hx | ⟨hx, hy⟩ | ⟨hx, hy⟩
    · have ex : (p1.tmod 2 != 0) = true := by simpa using hx
      by_cases hs : 0 ≤ p1
      · have ey : (p1 % 2 != 0) = true := by rw [← Int.tmod_eq_emod_of_nonneg hs]; exact ex
        clear hx
        go_wp2_with fail
        exact bodyPost_ret (v := .tuple #[.agg #[.int .i64 0, .int .i64 0, .int .i64 0, .int .i64 0], .int .i64 2]) (by simp [results, Try.results10, go_sem]) rfl ⟨by rw [he.out], (by repeat (first | exact Grew.refl _ | refine Grew.drewN ?_ _ | refine Grew.grow ?_ _ | refine Grew.alloc ?_ _ | refine Grew.drew ?_))⟩
      · have hn : p1 < 0 := by omega
        clear hx
        go_wp2_with fail
        exact bodyPost_ret (v := .tuple #[.agg #[.int .i64 0, .int .i64 0, .int .i64 0, .int .i64 0], .int .i64 2]) (by simp [results, Try.results10, go_sem]) rfl ⟨by rw [he.out], (by repeat (first | exact Grew.refl _ | refine Grew.drewN ?_ _ | refine Grew.grow ?_ _ | refine Grew.alloc ?_ _ | refine Grew.drew ?_))⟩
    · have ex := tm_ne hx
      have ey := em_ne hx
      have ez := td_neg hx hy
      replace hx := hid hx
      go_wp2_with fail
      refine (between_low _ _ _ _ (by assumption)).mono ?_
      rintro e w' ⟨rfl, gx, nx, rfl⟩
      go_wp2_with fail
      exact bodyPost_ret (v := .tuple #[.agg #[.int .i64 0, .int .i64 0, .int .i64 0, .int .i64 0], .int .i64 2]) (by simp [results, Try.results10, go_sem]) rfl ⟨by rw [he.out], (by repeat (first | exact Grew.refl _ | refine Grew.drewN ?_ _ | refine Grew.grow ?_ _ | refine Grew.alloc ?_ _ | refine Grew.drew ?_))⟩
    · have ex := tm_ne hx
      have ey := em_ne hx
      have ez : p1.tdiv 2 = p1 / 2 := Int.tdiv_eq_ediv_of_nonneg (by omega)
      have eh : 1000000 < p1 / 2 := by omega
      replace hx := hid hx
      go_wp2_with fail
      refine (between_high _ _ _ _ (by assumption)).mono ?_
      rintro e w' ⟨rfl, gx, nx, rfl⟩
      go_wp2_with fail
      exact bodyPost_ret (v := .tuple #[.agg #[.int .i64 0, .int .i64 0, .int .i64 0, .int .i64 0], .int .i64 2]) (by simp [results, Try.results10, go_sem]) rfl ⟨by rw [he.out], (by repeat (first | exact Grew.refl _ | refine Grew.drewN ?_ _ | refine Grew.grow ?_ _ | refine Grew.alloc ?_ _ | refine Grew.drew ?_))⟩
  by_cases h2 : evB p2 = true
  case neg =>
    have he : Hid (rdN m x y = ⟨0, 0, 0, 0, 2⟩) := hodd fun h => h2 h.2.1
    have hx : p2.tmod 2 ≠ 0 ∨ (p2 % 2 = 0 ∧ p2 < 0) ∨ (p2 % 2 = 0 ∧ 2000000 < p2) := by
      have e0 := tm_iff (p := p2)
      have hn : ¬ (p2 % 2 = 0 ∧ 0 ≤ p2 ∧ p2 ≤ 2000000) := fun h => h2 (evB_iff.2 h)
      clear hodd hok
      omega
    clear hodd hok h2
    have h1 := evB_iff.1 h1
    have e1f := h1.2.1
    have e1g := h1.2.2
    have e1a := tm_ne h1.1
    have e1b := em_ne h1.1
    have e1c : p1.tdiv 2 = p1 / 2 := Int.tdiv_eq_ediv_of_nonneg (by omega)
    have e1d : 0 ≤ p1 / 2 := by omega
    have e1e : p1 / 2 ≤ 1000000 := by omega
    replace h1 := hid h1
    go_enter Try.func10, Try.ntmps10
    go_wp2_with fail
    refine (HV.out _).mono ?_
    rintro e w' ⟨rfl, g, n, rfl⟩
    go_wp2_with fail
    refine wp_loop_rounds 5 ?_
    simp only [rounds_succ]
    go_wp2_with fail
    refine (between_yes _ _ _ _ (by omega) (by omega)).mono ?_
    rintro e w' ⟨rfl, g0, n0, rfl⟩
    go_wp2_with fail
    simp only [rounds_succ]
    rcases hx with hx | ⟨hx, hy⟩ | ⟨hx, hy⟩
    · have ex : (p2.tmod 2 != 0) = true := by simpa using hx
      by_cases hs : 0 ≤ p2
      · have ey : (p2 % 2 != 0) = true := by rw [← Int.tmod_eq_emod_of_nonneg hs]; exact ex
        clear hx
        go_wp2_with fail
        exact bodyPost_ret (v := .tuple #[.agg #[.int .i64 0, .int .i64 0, .int .i64 0, .int .i64 0], .int .i64 2]) (by simp [results, Try.results10, go_sem]) rfl ⟨by rw [he.out], (by repeat (first | exact Grew.refl _ | refine Grew.drewN ?_ _ | refine Grew.grow ?_ _ | refine Grew.alloc ?_ _ | refine Grew.drew ?_))⟩
      · have hn : p2 < 0 := by omega
        clear hx
        go_wp2_with fail
        exact bodyPost_ret (v := .tuple #[.agg #[.int .i64 0, .int .i64 0, .int .i64 0, .int .i64 0], .int .i64 2]) (by simp [results, Try.results10, go_sem]) rfl ⟨by rw [he.out], (by repeat (first | exact Grew.refl _ | refine Grew.drewN ?_ _ | refine Grew.grow ?_ _ | refine Grew.alloc ?_ _ | refine Grew.drew ?_))⟩
    · have ex := tm_ne hx
      have ey := em_ne hx
      have ez := td_neg hx hy
      replace hx := hid hx
      go_wp2_with fail
      refine (between_low _ _ _ _ (by assumption)).mono ?_
      rintro e w' ⟨rfl, gx, nx, rfl⟩
      go_wp2_with fail
      exact bodyPost_ret (v := .tuple #[.agg #[.int .i64 0, .int .i64 0, .int .i64 0, .int .i64 0], .int .i64 2]) (by simp [results, Try.results10, go_sem]) rfl ⟨by rw [he.out], (by repeat (first | exact Grew.refl _ | refine Grew.drewN ?_ _ | refine Grew.grow ?_ _ | refine Grew.alloc ?_ _ | refine Grew.drew ?_))⟩
    · have ex := tm_ne hx
      have ey := em_ne hx
      have ez : p2.tdiv 2 = p2 / 2 := Int.tdiv_eq_ediv_of_nonneg (by omega)
      have eh : 1000000 < p2 / 2 := by omega
      replace hx := hid hx
      go_wp2_with fail
      refine (between_high _ _ _ _ (by assumption)).mono ?_
      rintro e w' ⟨rfl, gx, nx, rfl⟩
      go_wp2_with fail
      exact bodyPost_ret (v := .tuple #[.agg #[.int .i64 0, .int .i64 0, .int .i64 0, .int .i64 0], .int .i64 2]) (by simp [results, Try.results10, go_sem]) rfl ⟨by rw [he.out], (by repeat (first | exact Grew.refl _ | refine Grew.drewN ?_ _ | refine Grew.grow ?_ _ | refine Grew.alloc ?_ _ | refine Grew.drew ?_))⟩
  by_cases h3 : evB p3 = true
  case neg =>
    have he : Hid (rdN m x y = ⟨0, 0, 0, 0, 2⟩) := hodd fun h => h3 h.2.2.1
    have hx : p3.tmod 2 ≠ 0 ∨ (p3 % 2 = 0 ∧ p3 < 0) ∨ (p3 % 2 = 0 ∧ 2000000 < p3) := by
      have e0 := tm_iff (p := p3)
      have hn : ¬ (p3 % 2 = 0 ∧ 0 ≤ p3 ∧ p3 ≤ 2000000) := fun h => h3 (evB_iff.2 h)
      clear hodd hok
      omega
    clear hodd hok h3
    have h1 := evB_iff.1 h1
    have e1f := h1.2.1
    have e1g := h1.2.2
    have e1a := tm_ne h1.1
    have e1b := em_ne h1.1
    have e1c : p1.tdiv 2 = p1 / 2 := Int.tdiv_eq_ediv_of_nonneg (by omega)
    have e1d : 0 ≤ p1 / 2 := by omega
    have e1e : p1 / 2 ≤ 1000000 := by omega
    have h2 := evB_iff.1 h2
    have e2f := h2.2.1
    have e2g := h2.2.2
    have e2a := tm_ne h2.1
    have e2b := em_ne h2.1
    have e2c : p2.tdiv 2 = p2 / 2 := Int.tdiv_eq_ediv_of_nonneg (by omega)
    have e2d : 0 ≤ p2 / 2 := by omega
    have e2e : p2 / 2 ≤ 1000000 := by omega
    replace h1 := hid h1
    replace h2 := hid h2
    go_enter Try.func10, Try.ntmps10
    go_wp2_with fail
    refine (HV.out _).mono ?_
    rintro e w' ⟨rfl, g, n, rfl⟩
    go_wp2_with fail
    refine wp_loop_rounds 5 ?_
    simp only [rounds_succ]
    go_wp2_with fail
    refine (between_yes _ _ _ _ (by omega) (by omega)).mono ?_
    rintro e w' ⟨rfl, g0, n0, rfl⟩
    go_wp2_with fail
    simp only [rounds_succ]
    go_wp2_with fail
    refine (between_yes _ _ _ _ (by omega) (by omega)).mono ?_
    rintro e w' ⟨rfl, g1, n1, rfl⟩
    go_wp2_with fail
    simp only [rounds_succ]
    rcases hx with hx | ⟨hx, hy⟩ | ⟨hx, hy⟩
    · have ex : (p3.tmod 2 != 0) = true := by simpa using hx
      by_cases hs : 0 ≤ p3
      · have ey : (p3 % 2 != 0) = true := by rw [← Int.tmod_eq_emod_of_nonneg hs]; exact ex
        clear hx
        go_wp2_with fail
        exact bodyPost_ret (v := .tuple #[.agg #[.int .i64 0, .int .i64 0, .int .i64 0, .int .i64 0], .int .i64 2]) (by simp [results, Try.results10, go_sem]) rfl ⟨by rw [he.out], (by repeat (first | exact Grew.refl _ | refine Grew.drewN ?_ _ | refine Grew.grow ?_ _ | refine Grew.alloc ?_ _ | refine Grew.drew ?_))⟩
      · have hn : p3 < 0 := by omega
        clear hx
        go_wp2_with fail
        exact bodyPost_ret (v := .tuple #[.agg #[.int .i64 0, .int .i64 0, .int .i64 0, .int .i64 0], .int .i64 2]) (by simp [results, Try.results10, go_sem]) rfl ⟨by rw [he.out], (by repeat (first | exact Grew.refl _ | refine Grew.drewN ?_ _ | refine Grew.grow ?_ _ | refine Grew.alloc ?_ _ | refine Grew.drew ?_))⟩
    · have ex := tm_ne hx
      have ey := em_ne hx
      have ez := td_neg hx hy
      replace hx := hid hx
      go_wp2_with fail
      refine (between_low _ _ _ _ (by assumption)).mono ?_
      rintro e w' ⟨rfl, gx, nx, rfl⟩
      go_wp2_with fail
      exact bodyPost_ret (v := .tuple #[.agg #[.int .i64 0, .int .i64 0, .int .i64 0, .int .i64 0], .int .i64 2]) (by simp [results, Try.results10, go_sem]) rfl ⟨by rw [he.out], (by repeat (first | exact Grew.refl _ | refine Grew.drewN ?_ _ | refine Grew.grow ?_ _ | refine Grew.alloc ?_ _ | refine Grew.drew ?_))⟩
    · have ex := tm_ne hx
      have ey := em_ne hx
      have ez : p3.tdiv 2 = p3 / 2 := Int.tdiv_eq_ediv_of_nonneg (by omega)
      have eh : 1000000 < p3 / 2 := by omega
      replace hx := hid hx
      go_wp2_with fail
      refine (between_high _ _ _ _ (by assumption)).mono ?_
      rintro e w' ⟨rfl, gx, nx, rfl⟩
      go_wp2_with fail
      exact bodyPost_ret (v := .tuple #[.agg #[.int .i64 0, .int .i64 0, .int .i64 0, .int .i64 0], .int .i64 2]) (by simp [results, Try.results10, go_sem]) rfl ⟨by rw [he.out], (by repeat (first | exact Grew.refl _ | refine Grew.drewN ?_ _ | refine Grew.grow ?_ _ | refine Grew.alloc ?_ _ | refine Grew.drew ?_))⟩
  by_cases h4 : evB p4 = true
  case neg =>
    have he : Hid (rdN m x y = ⟨0, 0, 0, 0, 2⟩) := hodd fun h => h4 h.2.2.2
    have hx : p4.tmod 2 ≠ 0 ∨ (p4 % 2 = 0 ∧ p4 < 0) ∨ (p4 % 2 = 0 ∧ 2000000 < p4) := by
      have e0 := tm_iff (p := p4)
      have hn : ¬ (p4 % 2 = 0 ∧ 0 ≤ p4 ∧ p4 ≤ 2000000) := fun h => h4 (evB_iff.2 h)
      clear hodd hok
      omega
    clear hodd hok h4
    have h1 := evB_iff.1 h1
    have e1f := h1.2.1
    have e1g := h1.2.2
    have e1a := tm_ne h1.1
    have e1b := em_ne h1.1
    have e1c : p1.tdiv 2 = p1 / 2 := Int.tdiv_eq_ediv_of_nonneg (by omega)
    have e1d : 0 ≤ p1 / 2 := by omega
    have e1e : p1 / 2 ≤ 1000000 := by omega
    have h2 := evB_iff.1 h2
    have e2f := h2.2.1
    have e2g := h2.2.2
    have e2a := tm_ne h2.1
    have e2b := em_ne h2.1
    have e2c : p2.tdiv 2 = p2 / 2 := Int.tdiv_eq_ediv_of_nonneg (by omega)
    have e2d : 0 ≤ p2 / 2 := by omega
    have e2e : p2 / 2 ≤ 1000000 := by omega
    have h3 := evB_iff.1 h3
    have e3f := h3.2.1
    have e3g := h3.2.2
    have e3a := tm_ne h3.1
    have e3b := em_ne h3.1
    have e3c : p3.tdiv 2 = p3 / 2 := Int.tdiv_eq_ediv_of_nonneg (by omega)
    have e3d : 0 ≤ p3 / 2 := by omega
    have e3e : p3 / 2 ≤ 1000000 := by omega
    replace h1 := hid h1
    replace h2 := hid h2
    replace h3 := hid h3
    go_enter Try.func10, Try.ntmps10
    go_wp2_with fail
    refine (HV.out _).mono ?_
    rintro e w' ⟨rfl, g, n, rfl⟩
    go_wp2_with fail
    refine wp_loop_rounds 5 ?_
    simp only [rounds_succ]
    go_wp2_with fail
    refine (between_yes _ _ _ _ (by omega) (by omega)).mono ?_
    rintro e w' ⟨rfl, g0, n0, rfl⟩
    go_wp2_with fail
    simp only [rounds_succ]
    go_wp2_with fail
    refine (between_yes _ _ _ _ (by omega) (by omega)).mono ?_
    rintro e w' ⟨rfl, g1, n1, rfl⟩
    go_wp2_with fail
    simp only [rounds_succ]
    go_wp2_with fail
    refine (between_yes _ _ _ _ (by omega) (by omega)).mono ?_
    rintro e w' ⟨rfl, g2, n2, rfl⟩
    go_wp2_with fail
    simp only [rounds_succ]
    rcases hx with hx | ⟨hx, hy⟩ | ⟨hx, hy⟩
    · have ex : (p4.tmod 2 != 0) = true := by simpa using hx
      by_cases hs : 0 ≤ p4
      · have ey : (p4 % 2 != 0) = true := by rw [← Int.tmod_eq_emod_of_nonneg hs]; exact ex
        clear hx
        go_wp2_with fail
        exact bodyPost_ret (v := .tuple #[.agg #[.int .i64 0, .int .i64 0, .int .i64 0, .int .i64 0], .int .i64 2]) (by simp [results, Try.results10, go_sem]) rfl ⟨by rw [he.out], (by repeat (first | exact Grew.refl _ | refine Grew.drewN ?_ _ | refine Grew.grow ?_ _ | refine Grew.alloc ?_ _ | refine Grew.drew ?_))⟩
      · have hn : p4 < 0 := by omega
        clear hx
        go_wp2_with fail
        exact bodyPost_ret (v := .tuple #[.agg #[.int .i64 0, .int .i64 0, .int .i64 0, .int .i64 0], .int .i64 2]) (by simp [results, Try.results10, go_sem]) rfl ⟨by rw [he.out], (by repeat (first | exact Grew.refl _ | refine Grew.drewN ?_ _ | refine Grew.grow ?_ _ | refine Grew.alloc ?_ _ | refine Grew.drew ?_))⟩
    · have ex := tm_ne hx
      have ey := em_ne hx
      have ez := td_neg hx hy
      replace hx := hid hx
      go_wp2_with fail
      refine (between_low _ _ _ _ (by assumption)).mono ?_
      rintro e w' ⟨rfl, gx, nx, rfl⟩
      go_wp2_with fail
      exact bodyPost_ret (v := .tuple #[.agg #[.int .i64 0, .int .i64 0, .int .i64 0, .int .i64 0], .int .i64 2]) (by simp [results, Try.results10, go_sem]) rfl ⟨by rw [he.out], (by repeat (first | exact Grew.refl _ | refine Grew.drewN ?_ _ | refine Grew.grow ?_ _ | refine Grew.alloc ?_ _ | refine Grew.drew ?_))⟩
    · have ex := tm_ne hx
      have ey := em_ne hx
      have ez : p4.tdiv 2 = p4 / 2 := Int.tdiv_eq_ediv_of_nonneg (by omega)
      have eh : 1000000 < p4 / 2 := by omega
      replace hx := hid hx
      go_wp2_with fail
      refine (between_high _ _ _ _ (by assumption)).mono ?_
      rintro e w' ⟨rfl, gx, nx, rfl⟩
      go_wp2_with fail
      exact bodyPost_ret (v := .tuple #[.agg #[.int .i64 0, .int .i64 0, .int .i64 0, .int .i64 0], .int .i64 2]) (by simp [results, Try.results10, go_sem]) rfl ⟨by rw [he.out], (by repeat (first | exact Grew.refl _ | refine Grew.drewN ?_ _ | refine Grew.grow ?_ _ | refine Grew.alloc ?_ _ | refine Grew.drew ?_))⟩
  have he := hid (hok h1 h2 h3 h4)
  have h1 := evB_iff.1 h1
  have e1f := h1.2.1
  have e1g := h1.2.2
  have e1a := tm_ne h1.1
  have e1b := em_ne h1.1
  have e1c : p1.tdiv 2 = p1 / 2 := Int.tdiv_eq_ediv_of_nonneg (by omega)
  have e1d : 0 ≤ p1 / 2 := by omega
  have e1e : p1 / 2 ≤ 1000000 := by omega
  have h2 := evB_iff.1 h2
  have e2f := h2.2.1
  have e2g := h2.2.2
  have e2a := tm_ne h2.1
  have e2b := em_ne h2.1
  have e2c : p2.tdiv 2 = p2 / 2 := Int.tdiv_eq_ediv_of_nonneg (by omega)
  have e2d : 0 ≤ p2 / 2 := by omega
  have e2e : p2 / 2 ≤ 1000000 := by omega
  have h3 := evB_iff.1 h3
  have e3f := h3.2.1
  have e3g := h3.2.2
  have e3a := tm_ne h3.1
  have e3b := em_ne h3.1
  have e3c : p3.tdiv 2 = p3 / 2 := Int.tdiv_eq_ediv_of_nonneg (by omega)
  have e3d : 0 ≤ p3 / 2 := by omega
  have e3e : p3 / 2 ≤ 1000000 := by omega
  have h4 := evB_iff.1 h4
  have e4f := h4.2.1
  have e4g := h4.2.2
  have e4a := tm_ne h4.1
  have e4b := em_ne h4.1
  have e4c : p4.tdiv 2 = p4 / 2 := Int.tdiv_eq_ediv_of_nonneg (by omega)
  have e4d : 0 ≤ p4 / 2 := by omega
  have e4e : p4 / 2 ≤ 1000000 := by omega
  replace h1 := hid h1
  replace h2 := hid h2
  replace h3 := hid h3
  replace h4 := hid h4
  clear hodd hok
  go_enter Try.func10, Try.ntmps10
  go_wp2_with fail
  refine (HV.out _).mono ?_
  rintro e w' ⟨rfl, g, n, rfl⟩
  go_wp2_with fail
  refine wp_loop_rounds 5 ?_
  simp only [rounds_succ]
  go_wp2_with fail
  refine (between_yes _ _ _ _ (by omega) (by omega)).mono ?_
  rintro e w' ⟨rfl, g0, n0, rfl⟩
  go_wp2_with fail
  simp only [rounds_succ]
  go_wp2_with fail
  refine (between_yes _ _ _ _ (by omega) (by omega)).mono ?_
  rintro e w' ⟨rfl, g1, n1, rfl⟩
  go_wp2_with fail
  simp only [rounds_succ]
  go_wp2_with fail
  refine (between_yes _ _ _ _ (by omega) (by omega)).mono ?_
  rintro e w' ⟨rfl, g2, n2, rfl⟩
  go_wp2_with fail
  simp only [rounds_succ]
  go_wp2_with fail
  refine (between_yes _ _ _ _ (by omega) (by omega)).mono ?_
  rintro e w' ⟨rfl, g3, n3, rfl⟩
  go_wp2_with fail
  simp only [rounds_succ]
  go_wp2_with fail
  exact bodyPost_ret (v := .tuple #[.agg #[.int .i64 (p1 / 2), .int .i64 (p2 / 2), .int .i64 (p3 / 2), .int .i64 (p4 / 2)], .int .i64 0]) (by simp [results, Try.results10, go_sem]) rfl ⟨by rw [he.out], (by repeat (first | exact Grew.refl _ | refine Grew.drewN ?_ _ | refine Grew.grow ?_ _ | refine Grew.alloc ?_ _ | refine Grew.drew ?_))⟩

end Go.Proofs.Ytecnidnaokbaiaa
