/- The walk of ProbeTurns: it returns true. No condition. -/
import Derived.Test.YtecnidnaokbaiaaPrbG
import Derived.Test.YtecnidnaokbaiaaPrbEq
import Derived.Test.YtecnidnaokbaiaaPrbB
namespace Go.Proofs.Ytecnidnaokbaiaa
open Go Go.RowKit Prb Amp

theorem vld_turn {m x y : Int} (h : vldB m x y = true) : vldB m y (-x) = true ∧ vldB m (-x) (-y) = true := by
  obtain ⟨h1, h2, h3, h4⟩ := vldB_iff.1 h
  have e1 : -x * -x = x * x := by grind
  have e2 : -y * -y = y * y := by grind
  exact ⟨vldB_iff.2 ⟨h1, h3, by omega, by rw [e1]; omega⟩, vldB_iff.2 ⟨h1, by omega, by omega, by rw [e1, e2]; omega⟩⟩
theorem fr_later {a b c d : Int} (ha : 0 ≤ a ∧ a ≤ 1000000) (hb : 0 ≤ b ∧ b ≤ 1000000) (hc : 0 ≤ c ∧ c ≤ 1000000) (hd : 0 ≤ d ∧ d ≤ 1000000) (h : a + c = b + d) (hv : vldB (a + c) (a - c) (b - d) = true) : frN b c d a = ⟨a + c, b - d, -(a - c), 0⟩ := by
  have h2 := (vld_turn hv).1
  rw [frN_ok (rdB_iff.2 hb) (rdB_iff.2 hc) (rdB_iff.2 hd) (rdB_iff.2 ha) ⟨by omega, by rw [← h, show c - a = -(a - c) by omega]; exact h2⟩]
  rw [← h, show c - a = -(a - c) by omega]
theorem oct_none {m x y : Int} (h : vldB m x y = true) (hz : x = 0 ∧ y = 0) : octE m x y = 5 ∧ octV m x y = 0 := ⟨(if_pos h).trans (if_pos hz), (if_pos h).trans (if_pos hz)⟩
theorem oct_some {m x y : Int} (h : vldB m x y = true) (hz : ¬ (x = 0 ∧ y = 0)) : octE m x y = 0 ∧ octV m x y = ((octN x y : Nat) : Int) := ⟨(if_pos h).trans (if_neg hz), (if_pos h).trans (if_neg hz)⟩
theorem vld_zero {m x y : Int} (h : vldB m x y = true) (hm : m = 0) : x = 0 ∧ y = 0 := by
  obtain ⟨_, _, _, h4⟩ := vldB_iff.1 h
  subst hm
  have h1 := sq_nonneg x
  have h2 := sq_nonneg y
  refine ⟨?_, ?_⟩
  · apply Classical.byContradiction; intro hne; have := sq_pos hne; omega
  · apply Classical.byContradiction; intro hne; have := sq_pos hne; omega

set_option maxHeartbeats 2000000 in
theorem probeTurns_walk (a b c d : Int) (w : World) :
    Calls Try.prog 4 #[.agg #[.int .i64 a, .int .i64 b, .int .i64 c, .int .i64 d]] w fun e w' => e = .returned (.bool true) ∧ Grew w w' := by
  have F1 := fun w => aFringe_any a b c d w
  rcases frN_cases a b c d with ⟨e0, h0, he⟩ | ⟨he, ha, hb, hc, hd, hs, hv⟩
  · rw [he] at F1
    have e1 : (e0 != 0) = true := by simpa using h0
    replace F1 := hid F1
    clear he h0
    go_enter Try.func4, Try.ntmps4
    go_wp2_with fail
    refine (F1.out _).mono ?_
    rintro e w' ⟨rfl, g0, n0, rfl⟩
    go_wp2_with fail
    refine (awake9_any _).mono ?_
    rintro e w' ⟨rfl, g1, n1, rfl⟩
    go_wp2_with fail
    go_ret
    exact ⟨rfl, (by repeat (first | exact Grew.refl _ | refine Grew.drewN ?_ _ | refine Grew.grow ?_ _ | refine Grew.alloc ?_ _ | refine Grew.drew ?_))⟩

  have F2 := fun w => aFringe_any b c d a w
  rw [he] at F1
  rw [fr_later ha hb hc hd hs hv] at F2
  obtain ⟨v2, v3⟩ := vld_turn hv
  clear he ha hb hc hd hs
  generalize a + c = M at *
  generalize a - c = X at *
  generalize b - d = Y at *
  obtain ⟨⟨m1, m2⟩, ⟨x1, x2⟩, ⟨y1, y2⟩, _⟩ := vldB_iff.1 hv
  have V := fun w => aVis_any M X Y w
  have O1 := fun w => aOctant_any M X Y w
  have O2 := fun w => aOctant_any M Y (-X) w
  have O3 := fun w => aOctant_any M (-X) (-Y) w
  by_cases hz : X = 0 ∧ Y = 0
  · obtain ⟨p1, p2⟩ := oct_none hv hz
    obtain ⟨p3, p4⟩ := oct_none v2 (by omega)
    obtain ⟨p5, p6⟩ := oct_none v3 (by omega)
    rw [p1, p2] at O1
    rw [p3, p4] at O2
    rw [p5, p6] at O3
    replace O1 := hid O1
    replace O2 := hid O2
    replace O3 := hid O3
    replace F1 := hid F1
    replace F2 := hid F2
    by_cases hm : M = 0
    · rw [visN_none hv hm] at V
      replace V := hid V
      have g0 : (M == 0) = true := by simpa using hm
      clear p1 p2 p3 p4 p5 p6 hv v2 v3 hz hm
      go_enter Try.func4, Try.ntmps4
      go_wp2_with fail
      refine (F1.out _).mono ?_
      rintro e w' ⟨rfl, g0, n0, rfl⟩
      go_wp2_with fail
      refine (F2.out _).mono ?_
      rintro e w' ⟨rfl, g1, n1, rfl⟩
      go_wp2_with fail
      refine (V.out _).mono ?_
      rintro e w' ⟨rfl, g2, n2, rfl⟩
      go_wp2_with fail
      refine (O1.out _).mono ?_
      rintro e w' ⟨rfl, g3, n3, rfl⟩
      go_wp2_with fail
      refine (O2.out _).mono ?_
      rintro e w' ⟨rfl, g4, n4, rfl⟩
      go_wp2_with fail
      refine (O3.out _).mono ?_
      rintro e w' ⟨rfl, g5, n5, rfl⟩
      go_wp2_with fail
      refine (awake9_any _).mono ?_
      rintro e w' ⟨rfl, g6, n6, rfl⟩
      go_wp2_with fail
      go_ret
      exact ⟨rfl, (by repeat (first | exact Grew.refl _ | refine Grew.drewN ?_ _ | refine Grew.grow ?_ _ | refine Grew.alloc ?_ _ | refine Grew.drew ?_))⟩

    · obtain ⟨r1, r2, r3, r4⟩ := vis_range hv hm
      rw [r4] at V
      generalize (visN M X Y).n = vn at *
      generalize (visN M X Y).d = vd at *
      replace V := hid V
      have g0 : (M == 0) = false := by simpa using hm
      clear p1 p2 p3 p4 p5 p6 hv v2 v3 hz hm r4
      go_enter Try.func4, Try.ntmps4
      go_wp2_with fail
      refine (F1.out _).mono ?_
      rintro e w' ⟨rfl, g0, n0, rfl⟩
      go_wp2_with fail
      refine (F2.out _).mono ?_
      rintro e w' ⟨rfl, g1, n1, rfl⟩
      go_wp2_with fail
      refine (V.out _).mono ?_
      rintro e w' ⟨rfl, g2, n2, rfl⟩
      go_wp2_with fail
      refine (O1.out _).mono ?_
      rintro e w' ⟨rfl, g3, n3, rfl⟩
      go_wp2_with fail
      refine (O2.out _).mono ?_
      rintro e w' ⟨rfl, g4, n4, rfl⟩
      go_wp2_with fail
      refine (O3.out _).mono ?_
      rintro e w' ⟨rfl, g5, n5, rfl⟩
      go_wp2_with fail
      refine (awake9_any _).mono ?_
      rintro e w' ⟨rfl, g6, n6, rfl⟩
      go_wp2_with fail
      go_ret
      exact ⟨rfl, (by repeat (first | exact Grew.refl _ | refine Grew.drewN ?_ _ | refine Grew.grow ?_ _ | refine Grew.alloc ?_ _ | refine Grew.drew ?_))⟩

  · have hm : ¬ M = 0 := fun h => hz (vld_zero hv h)
    obtain ⟨p1, p2⟩ := oct_some hv hz
    obtain ⟨p3, p4⟩ := oct_some v2 (by omega)
    obtain ⟨p5, p6⟩ := oct_some v3 (by omega)
    rw [p1, p2] at O1
    rw [p3, p4] at O2
    rw [p5, p6] at O3
    have q1 := oct_quarter hz
    have q2 := oct_half hz
    have q3 := octN_lt Y (-X)
    have t1 : ((octN X Y : Nat) + 6 : Int) % 8 = ((octN Y (-X) : Nat) : Int) := by omega
    have t2 : ((octN X Y : Nat) + 4 : Int) % 8 = ((octN (-X) (-Y) : Nat) : Int) := by omega
    generalize octN X Y = o1 at *
    generalize octN Y (-X) = o2 at *
    generalize octN (-X) (-Y) = o3 at *
    have ol : o1 ≤ 8 := by omega
    replace O1 := hid O1
    replace O2 := hid O2
    replace O3 := hid O3
    replace F1 := hid F1
    replace F2 := hid F2
    obtain ⟨r1, r2, r3, r4⟩ := vis_range hv hm
    rw [r4] at V
    generalize (visN M X Y).n = vn at *
    generalize (visN M X Y).d = vd at *
    replace V := hid V
    have g0 : (M == 0) = false := by simpa using hm
    clear p1 p2 p3 p4 p5 p6 hv v2 v3 hz hm r4 q1 q2
    go_enter Try.func4, Try.ntmps4
    go_wp2_with fail
    refine (F1.out _).mono ?_
    rintro e w' ⟨rfl, g0, n0, rfl⟩
    go_wp2_with fail
    refine (F2.out _).mono ?_
    rintro e w' ⟨rfl, g1, n1, rfl⟩
    go_wp2_with fail
    refine (V.out _).mono ?_
    rintro e w' ⟨rfl, g2, n2, rfl⟩
    go_wp2_with fail
    refine (O1.out _).mono ?_
    rintro e w' ⟨rfl, g3, n3, rfl⟩
    go_wp2_with fail
    refine (O2.out _).mono ?_
    rintro e w' ⟨rfl, g4, n4, rfl⟩
    go_wp2_with fail
    refine (O3.out _).mono ?_
    rintro e w' ⟨rfl, g5, n5, rfl⟩
    go_wp2_with fail
    refine (awake9_any _).mono ?_
    rintro e w' ⟨rfl, g6, n6, rfl⟩
    go_wp2_with fail
    go_ret
    exact ⟨rfl, (by repeat (first | exact Grew.refl _ | refine Grew.drewN ?_ _ | refine Grew.grow ?_ _ | refine Grew.alloc ?_ _ | refine Grew.drew ?_))⟩

end Go.Proofs.Ytecnidnaokbaiaa
