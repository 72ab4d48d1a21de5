/- Layer 9: Fringe and Readings of the program and of the reference. No condition. -/
import Derived.Test.YtecnidnaokbaiaaPrbA
namespace Go.Proofs.Ytecnidnaokbaiaa
open Go Go.RowKit Prb

@[go_sem] theorem idxP_0 (x0 x1 x2 x3 : Value) (w : World) : (Instr.index 22 (.agg #[x0, x1, x2, x3]) (.int .i64 0)).run Try.prog w = .ok x0 w := by kernel_rfl
@[go_sem] theorem idxP_1 (x0 x1 x2 x3 : Value) (w : World) : (Instr.index 22 (.agg #[x0, x1, x2, x3]) (.int .i64 1)).run Try.prog w = .ok x1 w := by kernel_rfl
@[go_sem] theorem idxP_2 (x0 x1 x2 x3 : Value) (w : World) : (Instr.index 22 (.agg #[x0, x1, x2, x3]) (.int .i64 2)).run Try.prog w = .ok x2 w := by kernel_rfl
@[go_sem] theorem idxP_3 (x0 x1 x2 x3 : Value) (w : World) : (Instr.index 22 (.agg #[x0, x1, x2, x3]) (.int .i64 3)).run Try.prog w = .ok x3 w := by kernel_rfl

theorem frN_bad {a b c d : Int} (h : ¬ (rdB a = true ∧ rdB b = true ∧ rdB c = true ∧ rdB d = true)) : frN a b c d = ⟨0, 0, 0, 2⟩ := by
  unfold frN
  rw [if_neg]
  simp only [Bool.and_eq_true]
  exact fun k => h ⟨k.1.1.1, k.1.1.2, k.1.2, k.2⟩
theorem frN_odd {a b c d : Int} (h1 : rdB a = true) (h2 : rdB b = true) (h3 : rdB c = true) (h4 : rdB d = true) (h : ¬ (a + c = b + d ∧ vldB (a + c) (a - c) (b - d) = true)) : frN a b c d = ⟨0, 0, 0, 90⟩ := by
  unfold frN
  rw [if_pos (by rw [h1, h2, h3, h4]; rfl), if_neg h]
theorem frN_ok {a b c d : Int} (h1 : rdB a = true) (h2 : rdB b = true) (h3 : rdB c = true) (h4 : rdB d = true) (h : a + c = b + d ∧ vldB (a + c) (a - c) (b - d) = true) : frN a b c d = ⟨a + c, a - c, b - d, 0⟩ := by
  unfold frN
  rw [if_pos (by rw [h1, h2, h3, h4]; rfl), if_pos h]
theorem rdN_bad {m x y : Int} (h : ¬ vldB m x y = true) : rdN m x y = ⟨0, 0, 0, 0, 90⟩ := if_neg h
theorem rdN_odd {m x y : Int} (hv : vldB m x y = true) (h : ¬ (evB (m + x) = true ∧ evB (m + y) = true ∧ evB (m - x) = true ∧ evB (m - y) = true)) : rdN m x y = ⟨0, 0, 0, 0, 2⟩ := by
  unfold rdN
  rw [if_pos hv, if_neg]
  simp only [Bool.and_eq_true]
  exact fun k => h ⟨k.1.1.1, k.1.1.2, k.1.2, k.2⟩
theorem rdN_ok {m x y : Int} (hv : vldB m x y = true) (h1 : evB (m + x) = true) (h2 : evB (m + y) = true) (h3 : evB (m - x) = true) (h4 : evB (m - y) = true) : rdN m x y = ⟨(m + x) / 2, (m + y) / 2, (m - x) / 2, (m - y) / 2, 0⟩ := by
  unfold rdN
  rw [if_pos hv, if_pos (by rw [h1, h2, h3, h4]; rfl)]

set_option maxHeartbeats 2000000 in
theorem aFringe_any (a b c d : Int) (w : World) :
    Calls Try.prog 6 #[.agg #[.int .i64 a, .int .i64 b, .int .i64 c, .int .i64 d]] w fun e w' => e = .returned (.tuple #[.agg #[.int .i64 (frN a b c d).m, .int .i64 (frN a b c d).x, .int .i64 (frN a b c d).y], .int .i64 (frN a b c d).e]) ∧ Grew w w' := by
  by_cases ha : 0 ≤ a ∧ a ≤ 1000000
  case neg =>
    have he : Hid (frN a b c d = ⟨0, 0, 0, 2⟩) := frN_bad fun h => ha (rdB_iff.1 h.1)
    have hx : a < 0 ∨ 1000000 < a := by omega
    clear ha
    go_enter Try.func6, Try.ntmps6
    go_wp2_with fail
    refine wp_loop_rounds 5 ?_
    simp only [rounds_succ]
    rcases hx with hx | hx
    · go_wp2_with fail
      refine (between_low _ _ _ _ hx).mono ?_
      rintro e w' ⟨rfl, gx, nx, rfl⟩
      go_wp2_with fail
      exact bodyPost_ret (v := .tuple #[.agg #[.int .i64 0, .int .i64 0, .int .i64 0], .int .i64 2]) (by simp [results, Try.results6, go_sem]) rfl ⟨by rw [he.out], (by repeat (first | exact Grew.refl _ | refine Grew.drewN ?_ _ | refine Grew.grow ?_ _ | refine Grew.alloc ?_ _ | refine Grew.drew ?_))⟩
    · go_wp2_with fail
      refine (between_high _ _ _ _ hx).mono ?_
      rintro e w' ⟨rfl, gx, nx, rfl⟩
      go_wp2_with fail
      exact bodyPost_ret (v := .tuple #[.agg #[.int .i64 0, .int .i64 0, .int .i64 0], .int .i64 2]) (by simp [results, Try.results6, go_sem]) rfl ⟨by rw [he.out], (by repeat (first | exact Grew.refl _ | refine Grew.drewN ?_ _ | refine Grew.grow ?_ _ | refine Grew.alloc ?_ _ | refine Grew.drew ?_))⟩
  by_cases hb : 0 ≤ b ∧ b ≤ 1000000
  case neg =>
    have he : Hid (frN a b c d = ⟨0, 0, 0, 2⟩) := frN_bad fun h => hb (rdB_iff.1 h.2.1)
    obtain ⟨ha1, ha2⟩ := ha
    have hx : b < 0 ∨ 1000000 < b := by omega
    clear hb
    go_enter Try.func6, Try.ntmps6
    go_wp2_with fail
    refine wp_loop_rounds 5 ?_
    simp only [rounds_succ]
    go_wp2_with fail
    refine (between_yes _ _ _ _ ha1 ha2).mono ?_
    rintro e w' ⟨rfl, g0, n0, rfl⟩
    go_wp2_with fail
    simp only [rounds_succ]
    rcases hx with hx | hx
    · go_wp2_with fail
      refine (between_low _ _ _ _ hx).mono ?_
      rintro e w' ⟨rfl, gx, nx, rfl⟩
      go_wp2_with fail
      exact bodyPost_ret (v := .tuple #[.agg #[.int .i64 0, .int .i64 0, .int .i64 0], .int .i64 2]) (by simp [results, Try.results6, go_sem]) rfl ⟨by rw [he.out], (by repeat (first | exact Grew.refl _ | refine Grew.drewN ?_ _ | refine Grew.grow ?_ _ | refine Grew.alloc ?_ _ | refine Grew.drew ?_))⟩
    · go_wp2_with fail
      refine (between_high _ _ _ _ hx).mono ?_
      rintro e w' ⟨rfl, gx, nx, rfl⟩
      go_wp2_with fail
      exact bodyPost_ret (v := .tuple #[.agg #[.int .i64 0, .int .i64 0, .int .i64 0], .int .i64 2]) (by simp [results, Try.results6, go_sem]) rfl ⟨by rw [he.out], (by repeat (first | exact Grew.refl _ | refine Grew.drewN ?_ _ | refine Grew.grow ?_ _ | refine Grew.alloc ?_ _ | refine Grew.drew ?_))⟩
  by_cases hc : 0 ≤ c ∧ c ≤ 1000000
  case neg =>
    have he : Hid (frN a b c d = ⟨0, 0, 0, 2⟩) := frN_bad fun h => hc (rdB_iff.1 h.2.2.1)
    obtain ⟨ha1, ha2⟩ := ha
    obtain ⟨hb1, hb2⟩ := hb
    have hx : c < 0 ∨ 1000000 < c := by omega
    clear hc
    go_enter Try.func6, Try.ntmps6
    go_wp2_with fail
    refine wp_loop_rounds 5 ?_
    simp only [rounds_succ]
    go_wp2_with fail
    refine (between_yes _ _ _ _ ha1 ha2).mono ?_
    rintro e w' ⟨rfl, g0, n0, rfl⟩
    go_wp2_with fail
    simp only [rounds_succ]
    go_wp2_with fail
    refine (between_yes _ _ _ _ hb1 hb2).mono ?_
    rintro e w' ⟨rfl, g1, n1, rfl⟩
    go_wp2_with fail
    simp only [rounds_succ]
    rcases hx with hx | hx
    · go_wp2_with fail
      refine (between_low _ _ _ _ hx).mono ?_
      rintro e w' ⟨rfl, gx, nx, rfl⟩
      go_wp2_with fail
      exact bodyPost_ret (v := .tuple #[.agg #[.int .i64 0, .int .i64 0, .int .i64 0], .int .i64 2]) (by simp [results, Try.results6, go_sem]) rfl ⟨by rw [he.out], (by repeat (first | exact Grew.refl _ | refine Grew.drewN ?_ _ | refine Grew.grow ?_ _ | refine Grew.alloc ?_ _ | refine Grew.drew ?_))⟩
    · go_wp2_with fail
      refine (between_high _ _ _ _ hx).mono ?_
      rintro e w' ⟨rfl, gx, nx, rfl⟩
      go_wp2_with fail
      exact bodyPost_ret (v := .tuple #[.agg #[.int .i64 0, .int .i64 0, .int .i64 0], .int .i64 2]) (by simp [results, Try.results6, go_sem]) rfl ⟨by rw [he.out], (by repeat (first | exact Grew.refl _ | refine Grew.drewN ?_ _ | refine Grew.grow ?_ _ | refine Grew.alloc ?_ _ | refine Grew.drew ?_))⟩
  by_cases hd : 0 ≤ d ∧ d ≤ 1000000
  case neg =>
    have he : Hid (frN a b c d = ⟨0, 0, 0, 2⟩) := frN_bad fun h => hd (rdB_iff.1 h.2.2.2)
    obtain ⟨ha1, ha2⟩ := ha
    obtain ⟨hb1, hb2⟩ := hb
    obtain ⟨hc1, hc2⟩ := hc
    have hx : d < 0 ∨ 1000000 < d := by omega
    clear hd
    go_enter Try.func6, Try.ntmps6
    go_wp2_with fail
    refine wp_loop_rounds 5 ?_
    simp only [rounds_succ]
    go_wp2_with fail
    refine (between_yes _ _ _ _ ha1 ha2).mono ?_
    rintro e w' ⟨rfl, g0, n0, rfl⟩
    go_wp2_with fail
    simp only [rounds_succ]
    go_wp2_with fail
    refine (between_yes _ _ _ _ hb1 hb2).mono ?_
    rintro e w' ⟨rfl, g1, n1, rfl⟩
    go_wp2_with fail
    simp only [rounds_succ]
    go_wp2_with fail
    refine (between_yes _ _ _ _ hc1 hc2).mono ?_
    rintro e w' ⟨rfl, g2, n2, rfl⟩
    go_wp2_with fail
    simp only [rounds_succ]
    rcases hx with hx | hx
    · go_wp2_with fail
      refine (between_low _ _ _ _ hx).mono ?_
      rintro e w' ⟨rfl, gx, nx, rfl⟩
      go_wp2_with fail
      exact bodyPost_ret (v := .tuple #[.agg #[.int .i64 0, .int .i64 0, .int .i64 0], .int .i64 2]) (by simp [results, Try.results6, go_sem]) rfl ⟨by rw [he.out], (by repeat (first | exact Grew.refl _ | refine Grew.drewN ?_ _ | refine Grew.grow ?_ _ | refine Grew.alloc ?_ _ | refine Grew.drew ?_))⟩
    · go_wp2_with fail
      refine (between_high _ _ _ _ hx).mono ?_
      rintro e w' ⟨rfl, gx, nx, rfl⟩
      go_wp2_with fail
      exact bodyPost_ret (v := .tuple #[.agg #[.int .i64 0, .int .i64 0, .int .i64 0], .int .i64 2]) (by simp [results, Try.results6, go_sem]) rfl ⟨by rw [he.out], (by repeat (first | exact Grew.refl _ | refine Grew.drewN ?_ _ | refine Grew.grow ?_ _ | refine Grew.alloc ?_ _ | refine Grew.drew ?_))⟩
  have hfo := frN_odd (rdB_iff.2 ha) (rdB_iff.2 hb) (rdB_iff.2 hc) (rdB_iff.2 hd)
  have hfk := frN_ok (rdB_iff.2 ha) (rdB_iff.2 hb) (rdB_iff.2 hc) (rdB_iff.2 hd)
  have HV := hid fun w => aVldF_any (a + c) (a - c) (b - d) w
  obtain ⟨ha1, ha2⟩ := ha
  obtain ⟨hb1, hb2⟩ := hb
  obtain ⟨hc1, hc2⟩ := hc
  obtain ⟨hd1, hd2⟩ := hd
  by_cases hs : a + c = b + d
  case neg =>
    have he := hid (hfo fun h => hs h.1)
    have hb' : (a + c != b + d) = true := by simpa using hs
    have hb'' : (a + c == b + d) = false := by simpa using hs
    clear hfo hfk hs HV
    go_enter Try.func6, Try.ntmps6
    go_wp2_with fail
    refine wp_loop_rounds 5 ?_
    simp only [rounds_succ]
    go_wp2_with fail
    refine (between_yes _ _ _ _ ha1 ha2).mono ?_
    rintro e w' ⟨rfl, g0, n0, rfl⟩
    go_wp2_with fail
    simp only [rounds_succ]
    go_wp2_with fail
    refine (between_yes _ _ _ _ hb1 hb2).mono ?_
    rintro e w' ⟨rfl, g1, n1, rfl⟩
    go_wp2_with fail
    simp only [rounds_succ]
    go_wp2_with fail
    refine (between_yes _ _ _ _ hc1 hc2).mono ?_
    rintro e w' ⟨rfl, g2, n2, rfl⟩
    go_wp2_with fail
    simp only [rounds_succ]
    go_wp2_with fail
    refine (between_yes _ _ _ _ hd1 hd2).mono ?_
    rintro e w' ⟨rfl, g3, n3, rfl⟩
    go_wp2_with fail
    simp only [rounds_succ]
    go_wp2_with fail
    exact bodyPost_ret (v := .tuple #[.agg #[.int .i64 0, .int .i64 0, .int .i64 0], .int .i64 90]) (by simp [results, Try.results6, go_sem]) rfl ⟨by rw [he.out], (by repeat (first | exact Grew.refl _ | refine Grew.drewN ?_ _ | refine Grew.grow ?_ _ | refine Grew.alloc ?_ _ | refine Grew.drew ?_))⟩
  have Hs := hid hs
  have hb' : (a + c != b + d) = false := by simpa using hs
  by_cases hv : vldB (a + c) (a - c) (b - d) = true
  case neg =>
    have he := hid (hfo fun h => hv h.2)
    rw [show vldB (a + c) (a - c) (b - d) = false by simpa using hv] at HV
    clear hfo hfk hs hv
    go_enter Try.func6, Try.ntmps6
    go_wp2_with fail
    refine wp_loop_rounds 5 ?_
    simp only [rounds_succ]
    go_wp2_with fail
    refine (between_yes _ _ _ _ ha1 ha2).mono ?_
    rintro e w' ⟨rfl, g0, n0, rfl⟩
    go_wp2_with fail
    simp only [rounds_succ]
    go_wp2_with fail
    refine (between_yes _ _ _ _ hb1 hb2).mono ?_
    rintro e w' ⟨rfl, g1, n1, rfl⟩
    go_wp2_with fail
    simp only [rounds_succ]
    go_wp2_with fail
    refine (between_yes _ _ _ _ hc1 hc2).mono ?_
    rintro e w' ⟨rfl, g2, n2, rfl⟩
    go_wp2_with fail
    simp only [rounds_succ]
    go_wp2_with fail
    refine (between_yes _ _ _ _ hd1 hd2).mono ?_
    rintro e w' ⟨rfl, g3, n3, rfl⟩
    go_wp2_with fail
    simp only [rounds_succ]
    go_wp2_with fail
    refine (HV.out _).mono ?_
    rintro e w' ⟨rfl, gv, nv, rfl⟩
    go_wp2_with fail
    exact bodyPost_ret (v := .tuple #[.agg #[.int .i64 0, .int .i64 0, .int .i64 0], .int .i64 90]) (by simp [results, Try.results6, go_sem]) rfl ⟨by rw [he.out], (by repeat (first | exact Grew.refl _ | refine Grew.drewN ?_ _ | refine Grew.grow ?_ _ | refine Grew.alloc ?_ _ | refine Grew.drew ?_))⟩
  have he := hid (hfk ⟨hs, hv⟩)
  rw [hv] at HV
  clear hfo hfk hs hv
  go_enter Try.func6, Try.ntmps6
  go_wp2_with fail
  refine wp_loop_rounds 5 ?_
  simp only [rounds_succ]
  go_wp2_with fail
  refine (between_yes _ _ _ _ ha1 ha2).mono ?_
  rintro e w' ⟨rfl, g0, n0, rfl⟩
  go_wp2_with fail
  simp only [rounds_succ]
  go_wp2_with fail
  refine (between_yes _ _ _ _ hb1 hb2).mono ?_
  rintro e w' ⟨rfl, g1, n1, rfl⟩
  go_wp2_with fail
  simp only [rounds_succ]
  go_wp2_with fail
  refine (between_yes _ _ _ _ hc1 hc2).mono ?_
  rintro e w' ⟨rfl, g2, n2, rfl⟩
  go_wp2_with fail
  simp only [rounds_succ]
  go_wp2_with fail
  refine (between_yes _ _ _ _ hd1 hd2).mono ?_
  rintro e w' ⟨rfl, g3, n3, rfl⟩
  go_wp2_with fail
  simp only [rounds_succ]
  go_wp2_with fail
  refine (HV.out _).mono ?_
  rintro e w' ⟨rfl, gv, nv, rfl⟩
  go_wp2_with fail
  exact bodyPost_ret (v := .tuple #[.agg #[.int .i64 (a + c), .int .i64 (a - c), .int .i64 (b - d)], .int .i64 0]) (by simp [results, Try.results6, go_sem]) rfl ⟨by rw [he.out], (by repeat (first | exact Grew.refl _ | refine Grew.drewN ?_ _ | refine Grew.grow ?_ _ | refine Grew.alloc ?_ _ | refine Grew.drew ?_))⟩

set_option maxHeartbeats 2000000 in
theorem rFringe_any (a b c d : Int) (w : World) :
    Calls Try.prog 7 #[.agg #[.int .i64 a, .int .i64 b, .int .i64 c, .int .i64 d]] w fun e w' => e = .returned (.tuple #[.agg #[.int .i64 (frN a b c d).m, .int .i64 (frN a b c d).x, .int .i64 (frN a b c d).y], .int .i64 (frN a b c d).e]) ∧ Grew w w' := by
  by_cases ha : 0 ≤ a ∧ a ≤ 1000000
  case neg =>
    have he : Hid (frN a b c d = ⟨0, 0, 0, 2⟩) := frN_bad fun h => ha (rdB_iff.1 h.1)
    have hx : a < 0 ∨ 1000000 < a := by omega
    clear ha
    go_enter Try.func7, Try.ntmps7
    go_wp2_with fail
    refine wp_loop_rounds 5 ?_
    simp only [rounds_succ]
    rcases hx with hx | hx
    · go_wp2_with fail
      exact bodyPost_ret (v := .tuple #[.agg #[.int .i64 0, .int .i64 0, .int .i64 0], .int .i64 2]) (by simp [results, Try.results7, go_sem]) rfl ⟨by rw [he.out], (by repeat (first | exact Grew.refl _ | refine Grew.drewN ?_ _ | refine Grew.grow ?_ _ | refine Grew.alloc ?_ _ | refine Grew.drew ?_))⟩
    · go_wp2_with fail
      exact bodyPost_ret (v := .tuple #[.agg #[.int .i64 0, .int .i64 0, .int .i64 0], .int .i64 2]) (by simp [results, Try.results7, go_sem]) rfl ⟨by rw [he.out], (by repeat (first | exact Grew.refl _ | refine Grew.drewN ?_ _ | refine Grew.grow ?_ _ | refine Grew.alloc ?_ _ | refine Grew.drew ?_))⟩
  by_cases hb : 0 ≤ b ∧ b ≤ 1000000
  case neg =>
    have he : Hid (frN a b c d = ⟨0, 0, 0, 2⟩) := frN_bad fun h => hb (rdB_iff.1 h.2.1)
    obtain ⟨ha1, ha2⟩ := ha
    have hx : b < 0 ∨ 1000000 < b := by omega
    clear hb
    go_enter Try.func7, Try.ntmps7
    go_wp2_with fail
    refine wp_loop_rounds 5 ?_
    simp only [rounds_succ]
    go_wp2_with fail
    simp only [rounds_succ]
    rcases hx with hx | hx
    · go_wp2_with fail
      exact bodyPost_ret (v := .tuple #[.agg #[.int .i64 0, .int .i64 0, .int .i64 0], .int .i64 2]) (by simp [results, Try.results7, go_sem]) rfl ⟨by rw [he.out], (by repeat (first | exact Grew.refl _ | refine Grew.drewN ?_ _ | refine Grew.grow ?_ _ | refine Grew.alloc ?_ _ | refine Grew.drew ?_))⟩
    · go_wp2_with fail
      exact bodyPost_ret (v := .tuple #[.agg #[.int .i64 0, .int .i64 0, .int .i64 0], .int .i64 2]) (by simp [results, Try.results7, go_sem]) rfl ⟨by rw [he.out], (by repeat (first | exact Grew.refl _ | refine Grew.drewN ?_ _ | refine Grew.grow ?_ _ | refine Grew.alloc ?_ _ | refine Grew.drew ?_))⟩
  by_cases hc : 0 ≤ c ∧ c ≤ 1000000
  case neg =>
    have he : Hid (frN a b c d = ⟨0, 0, 0, 2⟩) := frN_bad fun h => hc (rdB_iff.1 h.2.2.1)
    obtain ⟨ha1, ha2⟩ := ha
    obtain ⟨hb1, hb2⟩ := hb
    have hx : c < 0 ∨ 1000000 < c := by omega
    clear hc
    go_enter Try.func7, Try.ntmps7
    go_wp2_with fail
    refine wp_loop_rounds 5 ?_
    simp only [rounds_succ]
    go_wp2_with fail
    simp only [rounds_succ]
    go_wp2_with fail
    simp only [rounds_succ]
    rcases hx with hx | hx
    · go_wp2_with fail
      exact bodyPost_ret (v := .tuple #[.agg #[.int .i64 0, .int .i64 0, .int .i64 0], .int .i64 2]) (by simp [results, Try.results7, go_sem]) rfl ⟨by rw [he.out], (by repeat (first | exact Grew.refl _ | refine Grew.drewN ?_ _ | refine Grew.grow ?_ _ | refine Grew.alloc ?_ _ | refine Grew.drew ?_))⟩
    · go_wp2_with fail
      exact bodyPost_ret (v := .tuple #[.agg #[.int .i64 0, .int .i64 0, .int .i64 0], .int .i64 2]) (by simp [results, Try.results7, go_sem]) rfl ⟨by rw [he.out], (by repeat (first | exact Grew.refl _ | refine Grew.drewN ?_ _ | refine Grew.grow ?_ _ | refine Grew.alloc ?_ _ | refine Grew.drew ?_))⟩
  by_cases hd : 0 ≤ d ∧ d ≤ 1000000
  case neg =>
    have he : Hid (frN a b c d = ⟨0, 0, 0, 2⟩) := frN_bad fun h => hd (rdB_iff.1 h.2.2.2)
    obtain ⟨ha1, ha2⟩ := ha
    obtain ⟨hb1, hb2⟩ := hb
    obtain ⟨hc1, hc2⟩ := hc
    have hx : d < 0 ∨ 1000000 < d := by omega
    clear hd
    go_enter Try.func7, Try.ntmps7
    go_wp2_with fail
    refine wp_loop_rounds 5 ?_
    simp only [rounds_succ]
    go_wp2_with fail
    simp only [rounds_succ]
    go_wp2_with fail
    simp only [rounds_succ]
    go_wp2_with fail
    simp only [rounds_succ]
    rcases hx with hx | hx
    · go_wp2_with fail
      exact bodyPost_ret (v := .tuple #[.agg #[.int .i64 0, .int .i64 0, .int .i64 0], .int .i64 2]) (by simp [results, Try.results7, go_sem]) rfl ⟨by rw [he.out], (by repeat (first | exact Grew.refl _ | refine Grew.drewN ?_ _ | refine Grew.grow ?_ _ | refine Grew.alloc ?_ _ | refine Grew.drew ?_))⟩
    · go_wp2_with fail
      exact bodyPost_ret (v := .tuple #[.agg #[.int .i64 0, .int .i64 0, .int .i64 0], .int .i64 2]) (by simp [results, Try.results7, go_sem]) rfl ⟨by rw [he.out], (by repeat (first | exact Grew.refl _ | refine Grew.drewN ?_ _ | refine Grew.grow ?_ _ | refine Grew.alloc ?_ _ | refine Grew.drew ?_))⟩
  have hfo := frN_odd (rdB_iff.2 ha) (rdB_iff.2 hb) (rdB_iff.2 hc) (rdB_iff.2 hd)
  have hfk := frN_ok (rdB_iff.2 ha) (rdB_iff.2 hb) (rdB_iff.2 hc) (rdB_iff.2 hd)
  have HV := hid fun w => rVldF_any (a + c) (a - c) (b - d) w
  obtain ⟨ha1, ha2⟩ := ha
  obtain ⟨hb1, hb2⟩ := hb
  obtain ⟨hc1, hc2⟩ := hc
  obtain ⟨hd1, hd2⟩ := hd
  by_cases hs : a + c = b + d
  case neg =>
    have he := hid (hfo fun h => hs h.1)
    have hb' : (a + c != b + d) = true := by simpa using hs
    have hb'' : (a + c == b + d) = false := by simpa using hs
    clear hfo hfk hs HV
    go_enter Try.func7, Try.ntmps7
    go_wp2_with fail
    refine wp_loop_rounds 5 ?_
    simp only [rounds_succ]
    go_wp2_with fail
    simp only [rounds_succ]
    go_wp2_with fail
    simp only [rounds_succ]
    go_wp2_with fail
    simp only [rounds_succ]
    go_wp2_with fail
    simp only [rounds_succ]
    go_wp2_with fail
    exact bodyPost_ret (v := .tuple #[.agg #[.int .i64 0, .int .i64 0, .int .i64 0], .int .i64 90]) (by simp [results, Try.results7, go_sem]) rfl ⟨by rw [he.out], (by repeat (first | exact Grew.refl _ | refine Grew.drewN ?_ _ | refine Grew.grow ?_ _ | refine Grew.alloc ?_ _ | refine Grew.drew ?_))⟩
  have Hs := hid hs
  have hb' : (a + c != b + d) = false := by simpa using hs
  by_cases hv : vldB (a + c) (a - c) (b - d) = true
  case neg =>
    have he := hid (hfo fun h => hv h.2)
    rw [show vldB (a + c) (a - c) (b - d) = false by simpa using hv] at HV
    clear hfo hfk hs hv
    go_enter Try.func7, Try.ntmps7
    go_wp2_with fail
    refine wp_loop_rounds 5 ?_
    simp only [rounds_succ]
    go_wp2_with fail
    simp only [rounds_succ]
    go_wp2_with fail
    simp only [rounds_succ]
    go_wp2_with fail
    simp only [rounds_succ]
    go_wp2_with fail
    simp only [rounds_succ]
    go_wp2_with fail
    refine (HV.out _).mono ?_
    rintro e w' ⟨rfl, gv, nv, rfl⟩
    go_wp2_with fail
    exact bodyPost_ret (v := .tuple #[.agg #[.int .i64 0, .int .i64 0, .int .i64 0], .int .i64 90]) (by simp [results, Try.results7, go_sem]) rfl ⟨by rw [he.out], (by repeat (first | exact Grew.refl _ | refine Grew.drewN ?_ _ | refine Grew.grow ?_ _ | refine Grew.alloc ?_ _ | refine Grew.drew ?_))⟩
  have he := hid (hfk ⟨hs, hv⟩)
  rw [hv] at HV
  clear hfo hfk hs hv
  go_enter Try.func7, Try.ntmps7
  go_wp2_with fail
  refine wp_loop_rounds 5 ?_
  simp only [rounds_succ]
  go_wp2_with fail
  simp only [rounds_succ]
  go_wp2_with fail
  simp only [rounds_succ]
  go_wp2_with fail
  simp only [rounds_succ]
  go_wp2_with fail
  simp only [rounds_succ]
  go_wp2_with fail
  refine (HV.out _).mono ?_
  rintro e w' ⟨rfl, gv, nv, rfl⟩
  go_wp2_with fail
  exact bodyPost_ret (v := .tuple #[.agg #[.int .i64 (a + c), .int .i64 (a - c), .int .i64 (b - d)], .int .i64 0]) (by simp [results, Try.results7, go_sem]) rfl ⟨by rw [he.out], (by repeat (first | exact Grew.refl _ | refine Grew.drewN ?_ _ | refine Grew.grow ?_ _ | refine Grew.alloc ?_ _ | refine Grew.drew ?_))⟩

end Go.Proofs.Ytecnidnaokbaiaa
