/- Sign and Cmp of the reference. No condition. -/
import Derived.Test.YtmphmfhmcgpjcaaAmpU
namespace Go.Proofs.Ytmphmfhmcgpjcaa
open Go Go.RowKit Amp

theorem rpow_zero : ∀ (n : Nat), rpow n zero = zero
  | 0 => rfl
  | n + 1 => rpow_zero n
theorem add_zero' {x : C4} {k : Int} (h : 0 ≤ k) : addK x k (negC zero) 0 = x := by
  rw [addK_ge (by omega), rpow_neg, rpow_zero]
  simp [negC, zero]
theorem real_zero : realB zero = true := by decide
theorem cmpE_bad1 {x y : C4} {k j : Int} (h : ¬ validB x k = true) : cmpE x k y j = 10 ∧ cmpV x k y j = 0 := ⟨if_neg fun g => h g.1, if_neg fun g => h g.1⟩
theorem cmpE_bad2 {x y : C4} {k j : Int} (h : ¬ validB y j = true) : cmpE x k y j = 10 ∧ cmpV x k y j = 0 := ⟨if_neg fun g => h g.2, if_neg fun g => h g.2⟩
theorem cmpE_bad3 {x y : C4} {k j : Int} (h1 : validB x k = true) (h2 : validB y j = true) (h : ¬ realB x = true) : cmpE x k y j = 11 ∧ cmpV x k y j = 0 :=
  ⟨(if_pos ⟨h1, h2⟩).trans (if_neg fun g => h g.1), (if_pos ⟨h1, h2⟩).trans (if_neg fun g => h g.1)⟩
theorem cmpE_bad4 {x y : C4} {k j : Int} (h1 : validB x k = true) (h2 : validB y j = true) (h : ¬ realB y = true) : cmpE x k y j = 11 ∧ cmpV x k y j = 0 :=
  ⟨(if_pos ⟨h1, h2⟩).trans (if_neg fun g => h g.2), (if_pos ⟨h1, h2⟩).trans (if_neg fun g => h g.2)⟩
theorem cmpE_good {x y : C4} {k j : Int} (h1 : validB x k = true) (h2 : validB y j = true) (h3 : realB x = true) (h4 : realB y = true) : cmpE x k y j = 0 ∧ cmpV x k y j = sgn (addK x k (negC y) j).a (addK x k (negC y) j).b :=
  ⟨(if_pos ⟨h1, h2⟩).trans (if_pos ⟨h3, h4⟩), (if_pos ⟨h1, h2⟩).trans (if_pos ⟨h3, h4⟩)⟩

set_option maxHeartbeats 800000 in
theorem rSign_any (x : C4) (k : Int) (w : World) :
    Calls Try.prog 47 #[.agg #[.int .i64 x.a, .int .i64 x.b, .int .i64 x.c, .int .i64 x.d, .int .i64 k]] w fun e w' => e = .returned (.tuple #[.int .i64 (cmpV x k zero 0), .int .i64 (cmpE x k zero 0)]) ∧ Grew w w' := by
  have HV := hid fun w => rValid_any x k w
  by_cases h1 : validB x k = true
  case neg =>
    obtain ⟨hE, hV⟩ := cmpE_bad1 (y := zero) (j := 0) h1
    have HE := hid hE
    have HV' := hid hV
    rw [show validB x k = false by simpa using h1] at HV
    clear hE hV h1
    go_enter Try.func47, Try.ntmps47
    go_wp2_with fail
    refine (HV.out _).mono ?_
    rintro e w' ⟨rfl, g0, n0, rfl⟩
    go_wp2_with fail
    go_ret2
    exact ⟨by rw [HE.out, HV'.out]; rfl, (by repeat (first | exact Grew.refl _ | refine Grew.drewN ?_ _ | refine Grew.grow ?_ _ | refine Grew.alloc ?_ _ | refine Grew.drew ?_))⟩
  have sx := validB_small h1
  have kx := validB_k h1
  have HR := hid fun w => isReal_any x w sx
  by_cases h2 : realB x = true
  case neg =>
    obtain ⟨hE, hV⟩ := cmpE_bad3 h1 valid_zero h2
    have HE := hid hE
    have HV' := hid hV
    rw [h1] at HV
    rw [show realB x = false by simpa using h2] at HR
    clear hE hV h1 h2 sx
    go_enter Try.func47, Try.ntmps47
    go_wp2_with fail
    refine (HV.out _).mono ?_
    rintro e w' ⟨rfl, g0, n0, rfl⟩
    go_wp2_with fail
    refine (HR.out _).mono ?_
    rintro e w' ⟨rfl, g1, n1, rfl⟩
    go_wp2_with fail
    go_ret2
    exact ⟨by rw [HE.out, HV'.out]; rfl, (by repeat (first | exact Grew.refl _ | refine Grew.drewN ?_ _ | refine Grew.grow ?_ _ | refine Grew.alloc ?_ _ | refine Grew.drew ?_))⟩
  obtain ⟨hE, hV⟩ := cmpE_good h1 valid_zero h2 real_zero
  rw [add_zero' kx.1] at hV
  have HE := hid hE
  have HV' := hid hV
  obtain ⟨⟨i1, i2⟩, i3, i4⟩ := in4_neg1 (in4_small sx)
  have HS := hid fun w => side_any x.a x.b w i1 i2 i3 i4
  rw [h1] at HV
  rw [h2] at HR
  clear hE hV h1 h2 sx kx i1 i2 i3 i4
  go_enter Try.func47, Try.ntmps47
  go_wp2_with fail
  refine (HV.out _).mono ?_
  rintro e w' ⟨rfl, g0, n0, rfl⟩
  go_wp2_with fail
  refine (HR.out _).mono ?_
  rintro e w' ⟨rfl, g1, n1, rfl⟩
  go_wp2_with fail
  refine (HS.out _).mono ?_
  rintro e w' ⟨rfl, g2, n2, rfl⟩
  go_wp2_with fail
  go_ret2
  exact ⟨by rw [HE.out, HV'.out]; rfl, (by repeat (first | exact Grew.refl _ | refine Grew.drewN ?_ _ | refine Grew.grow ?_ _ | refine Grew.alloc ?_ _ | refine Grew.drew ?_))⟩

set_option maxHeartbeats 800000 in
theorem rCmp_any (x y : C4) (k j : Int) (w : World) :
    Calls Try.prog 49 #[.agg #[.int .i64 x.a, .int .i64 x.b, .int .i64 x.c, .int .i64 x.d, .int .i64 k], .agg #[.int .i64 y.a, .int .i64 y.b, .int .i64 y.c, .int .i64 y.d, .int .i64 j]] w fun e w' => e = .returned (.tuple #[.int .i64 (cmpV x k y j), .int .i64 (cmpE x k y j)]) ∧ Grew w w' := by
  have HA := hid fun w => rValid_any x k w
  have HB := hid fun w => rValid_any y j w
  by_cases h1 : validB x k = true
  case neg =>
    obtain ⟨hE, hV⟩ := cmpE_bad1 (y := y) (j := j) h1
    have HE := hid hE
    have HV' := hid hV
    rw [show validB x k = false by simpa using h1] at HA
    clear hE hV h1
    go_enter Try.func49, Try.ntmps49
    go_wp2_with fail
    refine (HA.out _).mono ?_
    rintro e w' ⟨rfl, g0, n0, rfl⟩
    go_wp2_with fail
    go_ret2
    exact ⟨by rw [HE.out, HV'.out]; rfl, (by repeat (first | exact Grew.refl _ | refine Grew.drewN ?_ _ | refine Grew.grow ?_ _ | refine Grew.alloc ?_ _ | refine Grew.drew ?_))⟩
  by_cases h2 : validB y j = true
  case neg =>
    obtain ⟨hE, hV⟩ := cmpE_bad2 (x := x) (k := k) h2
    have HE := hid hE
    have HV' := hid hV
    rw [h1] at HA
    rw [show validB y j = false by simpa using h2] at HB
    clear hE hV h1 h2
    go_enter Try.func49, Try.ntmps49
    go_wp2_with fail
    refine (HA.out _).mono ?_
    rintro e w' ⟨rfl, g0, n0, rfl⟩
    go_wp2_with fail
    refine (HB.out _).mono ?_
    rintro e w' ⟨rfl, g1, n1, rfl⟩
    go_wp2_with fail
    go_ret2
    exact ⟨by rw [HE.out, HV'.out]; rfl, (by repeat (first | exact Grew.refl _ | refine Grew.drewN ?_ _ | refine Grew.grow ?_ _ | refine Grew.alloc ?_ _ | refine Grew.drew ?_))⟩
  have sx := validB_small h1
  have sy := validB_small h2
  have kx := validB_k h1
  have ky := validB_k h2
  have HRx := hid fun w => isReal_any x w sx
  have HRy := hid fun w => isReal_any y w sy
  have HC := hid fun w => combined_neg x y k j w sx sy kx ky
  have hi := in4_addK sx (small_neg sy) kx ky
  by_cases h3 : realB x = true
  case neg =>
    obtain ⟨hE, hV⟩ := cmpE_bad3 h1 h2 h3
    have HE := hid hE
    have HV' := hid hV
    rw [h1] at HA
    rw [h2] at HB
    rw [show realB x = false by simpa using h3] at HRx
    clear hE hV h1 h2 h3 sx sy kx ky hi
    go_enter Try.func49, Try.ntmps49
    go_wp2_with fail
    refine (HA.out _).mono ?_
    rintro e w' ⟨rfl, g0, n0, rfl⟩
    go_wp2_with fail
    refine (HB.out _).mono ?_
    rintro e w' ⟨rfl, g1, n1, rfl⟩
    go_wp2_with fail
    refine (HRx.out _).mono ?_
    rintro e w' ⟨rfl, g2, n2, rfl⟩
    go_wp2_with fail
    go_ret2
    exact ⟨by rw [HE.out, HV'.out]; rfl, (by repeat (first | exact Grew.refl _ | refine Grew.drewN ?_ _ | refine Grew.grow ?_ _ | refine Grew.alloc ?_ _ | refine Grew.drew ?_))⟩
  by_cases h4 : realB y = true
  case neg =>
    obtain ⟨hE, hV⟩ := cmpE_bad4 h1 h2 h4
    have HE := hid hE
    have HV' := hid hV
    rw [h1] at HA
    rw [h2] at HB
    rw [h3] at HRx
    rw [show realB y = false by simpa using h4] at HRy
    clear hE hV h1 h2 h3 h4 sx sy kx ky hi
    go_enter Try.func49, Try.ntmps49
    go_wp2_with fail
    refine (HA.out _).mono ?_
    rintro e w' ⟨rfl, g0, n0, rfl⟩
    go_wp2_with fail
    refine (HB.out _).mono ?_
    rintro e w' ⟨rfl, g1, n1, rfl⟩
    go_wp2_with fail
    refine (HRx.out _).mono ?_
    rintro e w' ⟨rfl, g2, n2, rfl⟩
    go_wp2_with fail
    refine (HRy.out _).mono ?_
    rintro e w' ⟨rfl, g3, n3, rfl⟩
    go_wp2_with fail
    go_ret2
    exact ⟨by rw [HE.out, HV'.out]; rfl, (by repeat (first | exact Grew.refl _ | refine Grew.drewN ?_ _ | refine Grew.grow ?_ _ | refine Grew.alloc ?_ _ | refine Grew.drew ?_))⟩
  obtain ⟨hE, hV⟩ := cmpE_good h1 h2 h3 h4
  have HE := hid hE
  have HV' := hid hV
  obtain ⟨⟨i1, i2⟩, i3, i4⟩ := in4_neg1 hi
  have HS := hid fun w => side_any (addK x k (negC y) j).a (addK x k (negC y) j).b w i1 i2 i3 i4
  rw [h1] at HA
  rw [h2] at HB
  rw [h3] at HRx
  rw [h4] at HRy
  clear hE hV h1 h2 h3 h4 sx sy kx ky hi i1 i2 i3 i4
  go_enter Try.func49, Try.ntmps49
  go_wp2_with fail
  refine (HA.out _).mono ?_
  rintro e w' ⟨rfl, g0, n0, rfl⟩
  go_wp2_with fail
  refine (HB.out _).mono ?_
  rintro e w' ⟨rfl, g1, n1, rfl⟩
  go_wp2_with fail
  refine (HRx.out _).mono ?_
  rintro e w' ⟨rfl, g2, n2, rfl⟩
  go_wp2_with fail
  refine (HRy.out _).mono ?_
  rintro e w' ⟨rfl, g3, n3, rfl⟩
  go_wp2_with fail
  refine (HC.out _).mono ?_
  rintro e w' ⟨rfl, g4, n4, rfl⟩
  go_wp2_with fail
  refine (HS.out _).mono ?_
  rintro e w' ⟨rfl, g5, n5, rfl⟩
  go_wp2_with fail
  go_ret2
  exact ⟨by rw [HE.out, HV'.out]; rfl, (by repeat (first | exact Grew.refl _ | refine Grew.drewN ?_ _ | refine Grew.grow ?_ _ | refine Grew.alloc ?_ _ | refine Grew.drew ?_))⟩

end Go.Proofs.Ytmphmfhmcgpjcaa
